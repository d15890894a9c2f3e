import Derived.Test.YtkgcfgoaabkcpaaG6
import Derived.Deep.DeepCutAuto
namespace Go.Proofs.Ytkgcfgoaabkcpaa.Pa
open Go.RowKit Go.Proofs.YtkgcfgoaabkcpaaW.PrintWords Go.Proofs.YtkgcfgoaabkcpaaW.PrintLast Go.Proofs.YtkgcfgoaabkcpaaW.PrintMore
set_option linter.unusedVariables false
set_option linter.unusedSimpArgs false

theorem keep3x {w w5 : World} {x0 x1 x2 : Value} {B : Nat} (hb : Below w.heap.size w w5) (hB : B < w.heap.size)
    (h0 : w.cell? ⟨B, 0, none⟩ = some x0) (h1 : w.cell? ⟨B, 1, none⟩ = some x1) (h2 : w.cell? ⟨B, 2, none⟩ = some x2) :
    w5.cell? ⟨B, 0, none⟩ = some x0 ∧ w5.cell? ⟨B, 1, none⟩ = some x1 ∧ w5.cell? ⟨B, 2, none⟩ = some x2 :=
  ⟨(hb.cell (p := ⟨B, 0, none⟩) hB).trans h0, (hb.cell (p := ⟨B, 1, none⟩) hB).trans h1, (hb.cell (p := ⟨B, 2, none⟩) hB).trans h2⟩
theorem unnamedx {l1 : List S62} {y : ByteArray} (h : ∀ i, i < l1.length → (rd_T62 l1 i).f0.size ≤ y.size) : -1 = idxP (fun s => s.f0.toList == (y ++ (⟨#[39]⟩ : ByteArray)).toList) l1 :=
  unnamed (fun i hi => by
    rw [ByteArray.size_append]
    have h1 := h i hi
    have h2 : (⟨#[39]⟩ : ByteArray).size = 1 := rfl
    omega)
theorem RdS_of_R {W : World} {base : Nat} {ok : Nat → Prop} {v : Value} {xs : List ByteArray} (h : Kd.string.R 9 W base ok v xs) : RdS W v xs := by
  obtain ⟨A, c, rfl, h1, h2⟩ := Kd.R_reads h
  exact ⟨A, c, rfl, h1, h2⟩

set_option maxRecDepth 4000 in
set_option maxHeartbeats 16000000 in
theorem AutoTells_walk (a0 : ByteArray) (A1 : Option Addr) (c1 : Nat) (l1 : List S62) (A2 : Option Addr) (c2 : Nat) (l2 : List S39) (op nm : ByteArray) (w : World)
    (hr1 : Kd.C k62 w A1 l1.length l1) (hc1 : l1.length ≤ c1) (hr2 : Kd.C k39 w A2 l2.length l2) (hc2 : l2.length ≤ c2) (hz : SzP l1 l2) (hns : ∀ x ∈ l1, x.f0.size ≤ 140737488351232) :
    Calls Try.prog 7 #[.agg #[.string a0, .slice A1 l1.length c1, .slice A2 l2.length c2], .string op, .string nm] w fun e w' => e = .returned (.bool true) ∧ Below w.heap.size w w' := by
  obtain ⟨W0, hW0⟩ : ∃ W0, W0 = w.alloc (.cells #[.string a0, .slice A1 l1.length c1, .slice A2 l2.length c2] 25) := ⟨_, rfl⟩
  have hbw : Below w.heap.size w W0 := by rw [hW0]; exact (Below.refl w.heap.size w).alloc (Nat.le_refl _) _
  have hsz : w.heap.size < W0.heap.size := by rw [hW0]; simp
  have F0 := Lib.hid (show W0.cell? ⟨w.heap.size, 0, none⟩ = some (.string a0) by rw [hW0, World.cell?_alloc_at _ _ _ _ rfl]; rfl)
  have F1 := Lib.hid (show W0.cell? ⟨w.heap.size, 1, none⟩ = some (.slice A1 l1.length c1) by rw [hW0, World.cell?_alloc_at _ _ _ _ rfl]; rfl)
  have F2 := Lib.hid (show W0.cell? ⟨w.heap.size, 2, none⟩ = some (.slice A2 l2.length c2) by rw [hW0, World.cell?_alloc_at _ _ _ _ rfl]; rfl)
  have G1 := Lib.hid (Kd.C_below hr1 hbw)
  have G2 := Lib.hid (Kd.C_below hr2 hbw)
  have HZ := Lib.hid hz
  obtain ⟨bs, ks, hks, hfits⟩ := small_f a0 l1 l2 hz
  have HKS := Lib.hid hks; have HFITS := Lib.hid hfits
  clear hr1 hr2 hz hks hfits
  go_enter Try.func7, Try.ntmps7
  go_wp2_with fail
  rw [← hW0]
  refine (awake_calls W0).mono ?_
  rintro e w1 ⟨rfl, hb1⟩
  have f0 := (hb1.cell (p := ⟨w.heap.size, 0, none⟩) hsz).trans F0.out
  have f1 := (hb1.cell (p := ⟨w.heap.size, 1, none⟩) hsz).trans F1.out
  have f2 := (hb1.cell (p := ⟨w.heap.size, 2, none⟩) hsz).trans F2.out
  have HB1 := Aside0.mk hb1
  clear hb1 hW0
  go_wp2_with fail
  refine (ballcockref09_Small.calls ks a0 A1 c1 l1 A2 c2 l2 bs w1 (Kd.C_below G1.out HB1.out) hc1 (Kd.C_below G2.out HB1.out) hc2 HKS.out).mono ?_
  rintro e w2 ⟨rfl, hb2⟩
  have HB2 := Aside0.mk (bch HB1.out hb2)
  clear hb2 f0 f1 f2 HB1
  cases bs with
  | false =>
    go_wp2_with fail
    refine (awake_calls w2).mono ?_
    rintro e w3 ⟨rfl, hb3⟩
    have HB3 := Aside0.mk (bch HB2.out hb3)
    clear hb3
    go_wp2
    go_ret
    exact ⟨rfl, bch hbw HB3.out⟩
  | true =>
    by_cases hol : op.size ≤ 100
    case neg =>
      have hol' : 100 < op.size := by omega
      go_wp2_with fail
      refine (awake_calls w2).mono ?_
      rintro e w3 ⟨rfl, hb3⟩
      have HB3 := Aside0.mk (bch HB2.out hb3)
      clear hb3
      go_wp2
      go_ret
      exact ⟨rfl, bch hbw HB3.out⟩
    by_cases hnl : nm.size ≤ 100
    case neg =>
      have hnl' : 100 < nm.size := by omega
      go_wp2_with fail
      refine (awake_calls w2).mono ?_
      rintro e w3 ⟨rfl, hb3⟩
      have HB3 := Aside0.mk (bch HB2.out hb3)
      clear hb3
      go_wp2
      go_ret
      exact ⟨rfl, bch hbw HB3.out⟩
    have hf80 := HFITS.out rfl
    have HFt := Lib.hid (show Fits l1 l2 from ⟨by omega, by omega, fun m hm => by have := hf80.2.2 m hm; omega⟩)
    clear hf80 HFITS
    have f0 := (HB2.out.cell (p := ⟨w.heap.size, 0, none⟩) hsz).trans F0.out
    have f1 := (HB2.out.cell (p := ⟨w.heap.size, 1, none⟩) hsz).trans F1.out
    have f2 := (HB2.out.cell (p := ⟨w.heap.size, 2, none⟩) hsz).trans F2.out
    obtain ⟨kw, hkw⟩ := wrong_f a0 l1 l2 HFt.out
    have HKW := Lib.hid hkw; clear hkw
    obtain ⟨R1, hR1⟩ : ∃ R1, R1 = (wrongF l1 l2).1 := ⟨_, rfl⟩
    obtain ⟨R2, hR2⟩ : ∃ R2, R2 = (wrongF l1 l2).2 := ⟨_, rfl⟩
    have HKW2 := Lib.hid (show auto_Wrong.f kw a0 l1 l2 = some (R1, R2) by rw [hR1, hR2]; exact HKW.out)
    have HR1 := Lib.hid hR1; have HR2 := Lib.hid hR2
    clear hR1 hR2
    by_cases h0 : R1 = 0
    · subst h0
      have HRT := Lib.hid (right_of HR1.out.symm)
      have HIN := Lib.hid HRT.out.in16
      go_wp2_with fail
      refine (New_yes kw a0 A1 c1 l1 A2 c2 l2 R2 w2 (Kd.C_below G1.out HB2.out) hc1 (Kd.C_below G2.out HB2.out) hc2 HKW2.out HFt.out).mono ?_
      rintro e w3 ⟨g, rfl, hat, _, hb3⟩
      have HB3 := Aside0.mk (bch HB2.out hb3)
      have HAT0 := Aside0.mk hat
      clear hb3 f0 f1 f2 HB2 hat
      have f0 := (HB3.out.cell (p := ⟨w.heap.size, 0, none⟩) hsz).trans F0.out
      have f1 := (HB3.out.cell (p := ⟨w.heap.size, 1, none⟩) hsz).trans F1.out
      have f2 := (HB3.out.cell (p := ⟨w.heap.size, 2, none⟩) hsz).trans F2.out
      have HC15 := refWrong_calls a0 A1 c1 l1 A2 c2 l2 w3 (Kd.C_below G1.out HB3.out) hc1 (Kd.C_below G2.out HB3.out) hc2 HFt.out
      rw [← HR1.out, ← HR2.out] at HC15
      go_wp2_with fail
      refine HC15.mono ?_
      rintro e w4 ⟨rfl, hb4⟩
      have HB4 := Aside0.mk (bch HB3.out hb4)
      have HAT := Aside0.mk (AutoAt.below HAT0.out hb4)
      clear hb4 f0 f1 f2 HC15 HAT0
      have hsz4 : w.heap.size < w4.heap.size := by have := HB4.out.size; omega
      have P0 := Aside0.mk ((HB4.out.cell (p := ⟨w.heap.size, 0, none⟩) hsz).trans F0.out)
      have P1 := Aside0.mk ((HB4.out.cell (p := ⟨w.heap.size, 1, none⟩) hsz).trans F1.out)
      have P2 := Aside0.mk ((HB4.out.cell (p := ⟨w.heap.size, 2, none⟩) hsz).trans F2.out)
      have K1 := Aside0.mk (Kd.C_below G1.out HB4.out)
      have K2 := Aside0.mk (Kd.C_below G2.out HB4.out)
      have HBW := Aside0.mk (bch hbw HB4.out)
      clear HB3 F0 F1 F2 G1 G2 HZ HKS HKW HKW2 HR1 HR2 hbw HB4
      have hl1 := Kd.C_max K1.out
      have hl2 := Kd.C_max K2.out
      have h16 := HRT.out.few
      have HBs : Aside0 (Below w4.heap.size w4 w4) := ⟨Below.refl _ _⟩
      have HBd : Aside0 (Below w4.heap.size w4 w4.drew) := ⟨Below.drew (Below.refl _ _)⟩
      obtain ⟨kro, hkro⟩ := refOps_f a0 l1 l2 HFt.out.2.1
      obtain ⟨kt, hkt⟩ := (texts_f (opsM l2 []) (by have := opsM_len l2 []; have := HFt.out.2.1; simp at *; omega)).rounds
      have HKRO := Lib.hid hkro; have HKT := Lib.hid hkt
      have HNS := Lib.hid hns
      clear hkro hkt hns
      have f0 := P0.out
      have f1 := P1.out
      have f2 := P2.out
      go_upto_region 7 with (fail)
      go_cut [67] (fun s67 wx => s67 = .bool false ∧ Aside0 (Below w4.heap.size w4 wx))
      case first =>
        go_region_held3 (fun w' => w'.cell? ⟨w.heap.size, 0, none⟩ = some (.string a0) ∧ w'.cell? ⟨w.heap.size, 1, none⟩ = some (.slice A1 l1.length c1) ∧ w'.cell? ⟨w.heap.size, 2, none⟩ = some (.slice A2 l2.length c2)) (first | go_keep | exact keep3x (w := w4) (Aside0.out (by assumption)) hsz4 P0.out P1.out P2.out)
          ((first
            | (go_at_call 25; refine (Ops_calls g a0 l1 l2 _ (AutoAt.below HAT.out (Aside0.out (by assumption))) HFt.out.2.1).mono ?_; rintro e w5 ⟨vw5, rfl, ⟨Aw5, cw5, rfl, hcw5, hCw5⟩, hbw5⟩; have HBw5 : Aside0 (Below w4.heap.size w4 w5) := Aside0.mk (bch (Aside0.out (by assumption)) hbw5); have HSw5 := Aside0.mk hbw5; have HCw5 := Aside0.mk hCw5; clear hbw5 hCw5)
            | (go_at_call 27; refine (ballcockref09_Ops.calls kro a0 A1 c1 l1 A2 c2 l2 _ _ (Kd.C_below K1.out (Aside0.out (by assumption))) hc1 (Kd.C_below K2.out (Aside0.out (by assumption))) hc2 HKRO.out).mono ?_; rintro e w6 ⟨vw6, rfl, hR6, hb6⟩; obtain ⟨Aw6, cw6, rfl, hcw6, hC6⟩ := RdS_of_R hR6; have HBw6 : Aside0 (Below w4.heap.size w4 w6) := Aside0.mk (bch (Aside0.out (by assumption)) hb6); have HSw6 := Aside0.mk hb6; have HCw6 := Aside0.mk hC6; clear hb6 hC6 hR6)
            | (go_at_call 26; refine (ballcockref09_Texts.calls kt Aw5 cw5 (opsM l2 []) Aw6 cw6 (opsM l2 []) true _ (by first | exact HCw5.out | exact Kd.C_below HCw5.out (Aside0.out (by assumption))) hcw5 (by first | exact HCw6.out | exact Kd.C_below HCw6.out (Aside0.out (by assumption))) hcw6 HKT.out).mono ?_; rintro e w7 ⟨rfl, hb7⟩; have HB7 : Aside0 (Below w4.heap.size w4 w7) := Aside0.mk (bch (Aside0.out (by assumption)) hb7.below); clear hb7)
            | (go_at_call 21; refine (Finals_calls g a0 l1 l2 _ (AutoAt.below HAT.out (Aside0.out (by assumption))) h16).mono ?_; rintro e w8 ⟨rfl, hb8⟩; have HB8 : Aside0 (Below w4.heap.size w4 w8) := Aside0.mk (bch (Aside0.out (by assumption)) hb8); clear hb8)
            | (go_at_call 28; refine (Set_calls a0 A1 c1 l1 A2 c2 l2 0 ⟨#[]⟩ _ (Kd.C_below K1.out (Aside0.out (by assumption))) (Kd.C_below K2.out (Aside0.out (by assumption))) h16 (.inl rfl)).mono ?_; rintro e w9 ⟨s9, rfl, hs9, hb9⟩; obtain rfl := set0_eq hs9; have HB9 : Aside0 (Below w4.heap.size w4 w9) := Aside0.mk (bch (Aside0.out (by assumption)) hb9); clear hb9 hs9)))
        all_goals (go_wp2_with fail; go_meet; exact ⟨rfl, by assumption⟩)
      case rest =>
        obtain ⟨rfl, BW0⟩ := hcut
        clear HBs HBd
        have hl1b := hl1
        go_wp2_with fail
        go_loopg [11] (l2.length + 1) (fun gm s11 wm => ∃ (i : Nat), i ≤ l2.length + 1 ∧ l2.length + 1 - i ≤ gm ∧ s11 = .int .i64 i ∧ Aside0 (Below w4.heap.size w4 wm))
        case atStart => exact ⟨0, Nat.zero_le _, by omega, rfl, BW0⟩
        case round =>
          clear BW0
          obtain ⟨i, hi, hgi, rfl, BW⟩ := hrel
          obtain ⟨wo, rfl⟩ : ∃ wo : World, wo = wr := ⟨_, rfl⟩
          have f0 := (BW.out.cell (p := ⟨w.heap.size, 0, none⟩) hsz4).trans P0.out
          have f1 := (BW.out.cell (p := ⟨w.heap.size, 1, none⟩) hsz4).trans P1.out
          have f2 := (BW.out.cell (p := ⟨w.heap.size, 2, none⟩) hsz4).trans P2.out
          by_cases hle : i ≤ l2.length
          · have hlez : (i : Int) ≤ (l2.length : Int) := by omega
            have hled : decide (i ≤ l2.length) = true := decide_eq_true hle
            have HLE := Lib.hid hle
            go_upto_if 80 with (fail)
            go_cut [12] (fun s12 wx => ∃ o, s12 = .string o ∧ wx = wo)
            case first =>
              by_cases hli : i < l2.length
              · have hliz : (i : Int) < (l2.length : Int) := by omega
                have hlid : decide (i < l2.length) = true := decide_eq_true hli
                obtain ⟨adm, Am, cm, em, hm0, hm1, hm2, hmc, hmo⟩ := at_T39 (Kd.C_below K2.out BW.out) i (by omega) hliz
                simp only [Int.toNat_natCast] at hm0
                cases em
                clear hm1 hm2 hmc hmo
                go_wp2_with fail
                go_meet
                exact ⟨_, rfl, rfl⟩
              · have hliz : ¬ (i : Int) < (l2.length : Int) := by omega
                have hlid : decide (i < l2.length) = false := decide_eq_false hli
                go_wp2_with fail
                go_meet
                exact ⟨_, rfl, rfl⟩
            case rest =>
              obtain ⟨o, rfl, rfl⟩ := hcut
              obtain ⟨kro, hkro⟩ := refOutc_f a0 l1 l2 o HFt.out.2.1 HFt.out.2.2
              obtain ⟨kt, hkt⟩ := (texts_f (outcM o l2 []) (by have := outcM_len o l2 [] HFt.out.2.2; have := HFt.out.2.1; simp at *; omega)).rounds
              have HKRO := Lib.hid hkro; have HKT := Lib.hid hkt
              have HBs : Aside0 (Below w4.heap.size w4 wc) := BW
              have HBd : Aside0 (Below w4.heap.size w4 wc.drew) := ⟨Below.drew BW.out⟩
              clear hkro hkt BW
              go_upto_region 15 with (fail)
              go_cut [112] (fun s112 wx => s112 = .bool false ∧ Aside0 (Below w4.heap.size w4 wx))
              case first =>
                go_region_held3 (fun w' => w'.cell? ⟨w.heap.size, 0, none⟩ = some (.string a0) ∧ w'.cell? ⟨w.heap.size, 1, none⟩ = some (.slice A1 l1.length c1) ∧ w'.cell? ⟨w.heap.size, 2, none⟩ = some (.slice A2 l2.length c2)) (first | go_keep | exact keep3x (w := w4) (Aside0.out (by assumption)) hsz4 P0.out P1.out P2.out)
                  ((first
                    | (go_at_call 24; refine (Outcomes_calls g a0 l1 l2 o _ (AutoAt.below HAT.out (Aside0.out (by assumption))) HFt.out.2.1 HFt.out.2.2).mono ?_; rintro e w5 ⟨vw5, rfl, ⟨Aw5, cw5, rfl, hcw5, hCw5⟩, hbw5⟩; have HBw5 : Aside0 (Below w4.heap.size w4 w5) := Aside0.mk (bch (Aside0.out (by assumption)) hbw5); have HSw5 := Aside0.mk hbw5; have HCw5 := Aside0.mk hCw5; clear hbw5 hCw5)
                    | (go_at_call 29; refine (ballcockref09_Outcomes.calls kro a0 A1 c1 l1 A2 c2 l2 o _ _ (Kd.C_below K1.out (Aside0.out (by assumption))) hc1 (Kd.C_below K2.out (Aside0.out (by assumption))) hc2 HKRO.out).mono ?_; rintro e w6 ⟨vw6, rfl, hR6, hb6⟩; obtain ⟨Aw6, cw6, rfl, hcw6, hC6⟩ := RdS_of_R hR6; have HBw6 : Aside0 (Below w4.heap.size w4 w6) := Aside0.mk (bch (Aside0.out (by assumption)) hb6); have HSw6 := Aside0.mk hb6; have HCw6 := Aside0.mk hC6; clear hb6 hC6 hR6)
                    | (go_at_call 26; refine (ballcockref09_Texts.calls kt Aw5 cw5 (outcM o l2 []) Aw6 cw6 (outcM o l2 []) true _ (by first | exact HCw5.out | exact Kd.C_below HCw5.out (Aside0.out (by assumption))) hcw5 (by first | exact HCw6.out | exact Kd.C_below HCw6.out (Aside0.out (by assumption))) hcw6 HKT.out).mono ?_; rintro e w7 ⟨rfl, hb7⟩; have HB7 : Aside0 (Below w4.heap.size w4 w7) := Aside0.mk (bch (Aside0.out (by assumption)) hb7.below); clear hb7)
                    | (go_at_call 23; refine (Enabled_calls g a0 l1 l2 o _ (AutoAt.below HAT.out (Aside0.out (by assumption))) HIN.out).mono ?_; rintro e w8 ⟨rfl, hb8⟩; have HB8 : Aside0 (Below w4.heap.size w4 w8) := Aside0.mk (bch (Aside0.out (by assumption)) hb8); clear hb8)
                    | (go_at_call 22; refine (Keeps_calls g a0 l1 l2 o _ (AutoAt.below HAT.out (Aside0.out (by assumption))) HIN.out).mono ?_; rintro e w10 ⟨rfl, hb10⟩; have HB10 : Aside0 (Below w4.heap.size w4 w10) := Aside0.mk (bch (Aside0.out (by assumption)) hb10); clear hb10)
                    | (go_at_call 28; refine (Set_calls a0 A1 c1 l1 A2 c2 l2 _ o _ (Kd.C_below K1.out (Aside0.out (by assumption))) (Kd.C_below K2.out (Aside0.out (by assumption))) h16 (by simp)).mono ?_; rintro e w9 ⟨s9, rfl, hs9, hb9⟩; (first | (obtain rfl := HRT.out.set1_eq hs9) | (obtain rfl := HRT.out.set2_eq hs9)); have HB9 : Aside0 (Below w4.heap.size w4 w9) := Aside0.mk (bch (Aside0.out (by assumption)) hb9); clear hb9 hs9)))
                all_goals (go_wp2_with fail; go_meet; exact ⟨rfl, by assumption⟩)
              case rest =>
                obtain ⟨rfl, BW0⟩ := hcut
                clear HBs HBd f0 f1 f2 HKRO HKT
                go_wp2_with fail
                go_loopg [13] (l1.length + 2) (fun gq s13 wq => ∃ (q : Nat) (z : Int), q ≤ l1.length + 2 ∧ l1.length + 2 - q ≤ gq ∧ z = (q : Int) - 1 ∧ s13 = .int .i64 z ∧ Aside0 (Below w4.heap.size w4 wq))
                case atStart => exact ⟨0, -1, Nat.zero_le _, by omega, rfl, rfl, BW0⟩
                case round =>
                  clear BW0
                  obtain ⟨q, z, hq, hgq, hz, rfl, BQ⟩ := hrel
                  have hz0 : -1 ≤ z := by omega
                  have hz1 : z ≤ (l1.length : Int) + 1 := by omega
                  obtain ⟨wp, rfl⟩ : ∃ wp : World, wp = wr := ⟨_, rfl⟩
                  have f0 := (BQ.out.cell (p := ⟨w.heap.size, 0, none⟩) hsz4).trans P0.out
                  have f1 := (BQ.out.cell (p := ⟨w.heap.size, 1, none⟩) hsz4).trans P1.out
                  have f2 := (BQ.out.cell (p := ⟨w.heap.size, 2, none⟩) hsz4).trans P2.out
                  by_cases hlz : z ≤ (l1.length : Int)
                  · have hq2 : q + 1 ≤ l1.length + 2 := by omega
                    have HZ := Lib.hid hz
                    clear hz
                    obtain ⟨ks, hks⟩ := (same_f (outsF z o l2) (outsF_len z o l2 HFt.out.2.2)).rounds
                    have HKS := Lib.hid hks
                    have HBs : Aside0 (Below w4.heap.size w4 wp) := BQ
                    have HBd : Aside0 (Below w4.heap.size w4 wp.drew) := ⟨Below.drew BQ.out⟩
                    clear hks BQ
                    go_upto_region 20 with (fail)
                    go_cut [129] (fun s129 wx => s129 = .bool false ∧ Aside0 (Below w4.heap.size w4 wx))
                    case first =>
                      go_region_held3 (fun w' => w'.cell? ⟨w.heap.size, 0, none⟩ = some (.string a0) ∧ w'.cell? ⟨w.heap.size, 1, none⟩ = some (.slice A1 l1.length c1) ∧ w'.cell? ⟨w.heap.size, 2, none⟩ = some (.slice A2 l2.length c2)) (first | go_keep | exact keep3x (w := w4) (Aside0.out (by assumption)) hsz4 P0.out P1.out P2.out)
                        ((first
                          | (go_at_call 31; refine (AOuts_calls g a0 l1 l2 z o _ (AutoAt.below HAT.out (Aside0.out (by assumption))) HFt.out.2.2).mono ?_; rintro e w5 ⟨vw5, rfl, ⟨Aw5, cw5, rfl, hcw5, hCw5⟩, hbw5⟩; have HBw5 : Aside0 (Below w4.heap.size w4 w5) := Aside0.mk (bch (Aside0.out (by assumption)) hbw5); have HSw5 := Aside0.mk hbw5; have HCw5 := Aside0.mk hCw5; clear hbw5 hCw5)
                          | (go_at_call 32; refine (Outs_calls a0 A1 l1.length c1 A2 c2 l2 z o _ (Kd.C_below K2.out (Aside0.out (by assumption)))).mono ?_; rintro e w6 ⟨Aw6, cw6, rfl, hcw6, hCw6, hbw6⟩; have HBw6 : Aside0 (Below w4.heap.size w4 w6) := Aside0.mk (bch (Aside0.out (by assumption)) hbw6); have HSw6 := Aside0.mk hbw6; have HCw6 := Aside0.mk hCw6; clear hbw6 hCw6)
                          | (go_at_call 30; refine (ballcockref09_Same.calls ks Aw5 cw5 (outsF z o l2) Aw6 cw6 (outsF z o l2) true _ (by first | exact HCw5.out | exact Kd.C_below HCw5.out (Aside0.out (by assumption))) hcw5 (by first | exact HCw6.out | exact Kd.C_below HCw6.out (Aside0.out (by assumption))) hcw6 HKS.out).mono ?_; rintro e w7 ⟨rfl, hb7⟩; have HB7 : Aside0 (Below w4.heap.size w4 w7) := Aside0.mk (bch (Aside0.out (by assumption)) hb7.below); clear hb7)))
                      all_goals (go_wp2_with fail; go_meet; exact ⟨rfl, by assumption⟩)
                    case rest =>
                      obtain ⟨rfl, BW0⟩ := hcut
                      go_wp2
                      go_roundg (l1.length + 2 - (q + 1))
                      case measure => omega
                      case rel => exact ⟨q + 1, z + 1, by omega, by omega, by have := HZ.out; omega, rfl, BW0⟩
                  · clear hz
                    have hle2 := HLE.out
                    have hl2b := HFt.out.2.1
                    go_wp2
                    go_roundg (l2.length + 1 - (i + 1))
                    case measure => have := HLE.out; omega
                    case rel => exact ⟨i + 1, by have := HLE.out; omega, by omega, by go_num, BQ⟩
          · have hlez : ¬ (i : Int) ≤ (l2.length : Int) := by omega
            have hled : decide (i ≤ l2.length) = false := decide_eq_false hle
            have hns1 : ∀ i, i < l1.length → (rd_T62 l1 i).f0.size ≤ 140737488351232 := fun i hi => by rw [rd62_at hi]; exact HNS.out _ (List.getElem_mem hi)
            have HN1 := Lib.hid hns1
            clear hns1
            go_wp2_with fail
            go_loopg [2, 14] l1.length (fun gk s2 s14 wk => ∃ (k : Nat) (y : ByteArray), k ≤ l1.length ∧ l1.length - k ≤ gk ∧ s14 = .int .i64 k ∧ s2 = .string y ∧ Aside0 (y.size ≤ 100 + k * 140737488351232) ∧ Aside0 (∀ q, q < k → (rd_T62 l1 q).f0.size ≤ y.size) ∧ Aside0 (Below w4.heap.size w4 wk))
            case atStart => exact ⟨0, nm, Nat.zero_le _, by omega, rfl, rfl, ⟨by omega⟩, ⟨fun q hq => absurd hq (Nat.not_lt_zero _)⟩, BW⟩
            case round =>
              clear BW f0 f1 f2 hlez hled
              obtain ⟨k, y, hk, hgk, rfl, rfl, HY, HYL, BK⟩ := hrel
              have f1 := (BK.out.cell (p := ⟨w.heap.size, 1, none⟩) hsz4).trans P1.out
              have hyb : y.size ≤ 2251799813620000 := by
                have := HY.out
                have h2 : k * 140737488351232 ≤ 16 * 140737488351232 := Nat.mul_le_mul_right _ (by omega)
                omega
              by_cases hlk : k < l1.length
              · have hlkz : (k : Int) < (l1.length : Int) := by omega
                have hlkd : decide (k < l1.length) = true := decide_eq_true hlk
                obtain ⟨wo, rfl⟩ : ∃ wo : World, wo = wr := ⟨_, rfl⟩
                obtain ⟨ad1, e1, hs0, hs1⟩ := at_T62 (Kd.C_below K1.out BK.out) k (by omega) hlkz
                have HNM := Lib.hid (HRT.out.named hlk)
                have hxl := HN1.out k hlk
                generalize hx : rd_T62 l1 (k : Int) = x at hs0 hs1 HNM hxl
                have HX := Lib.hid hx
                clear hx
                obtain ⟨x0, x1⟩ := x
                simp only at hs0 hs1 HNM hxl
                simp only [Int.toNat_natCast] at hs0 hs1
                cases e1
                go_wp2_with fail
                refine (State_calls g a0 l1 l2 x0 (k : Int) _ (AutoAt.below HAT.out BK.out) HNM.out (by omega)).mono ?_
                rintro e w6 ⟨rfl, hb6⟩
                have BK6 := Aside0.mk (bch BK.out hb6)
                have g1 := pw_cell_below hb6 f1
                have g0 := pw_cell_below hb6 hs0
                clear hb6 f1 hs0 hs1
                go_wp2_with fail
                go_roundg (l1.length - (k + 1))
                case measure => omega
                case rel => exact ⟨k + 1, y ++ x0, by omega, by omega, by go_num, rfl, ⟨by have := HY.out; rw [Nat.add_mul]; simp only [ByteArray.size_append]; omega⟩, ⟨fun q hq => by
                  rw [ByteArray.size_append]
                  by_cases e : q = k
                  · subst e; rw [HX.out]; simp only; omega
                  · have := HYL.out q (by omega); omega⟩, BK6⟩
              · have hlkz : ¬ (k : Int) < (l1.length : Int) := by omega
                have hlkd : decide (k < l1.length) = false := decide_eq_false hlk
                go_wp2_with fail
                have HNO := unnamedx (l1 := l1) (y := y) (fun q hq => HYL.out q (by omega))
                generalize hyq : y ++ (⟨#[39]⟩ : ByteArray) = yq at HNO ⊢
                clear hyq
                refine (State_none g a0 l1 l2 yq _ (AutoAt.below HAT.out BK.out) HNO).mono ?_
                clear HNO
                rintro e w6 ⟨rfl, hb6⟩
                have BK6 := Aside0.mk (bch BK.out hb6)
                clear hb6
                go_wp2
                go_ret
                exact ⟨rfl, bch HBW.out BK6.out⟩
    · have h0' : (R1 == 0) = false := beq_eq_false_iff_ne.mpr h0
      have h0n : (R1 != 0) = true := bne_iff_ne.mpr h0
      go_wp2_with fail
      refine (New_no kw a0 A1 c1 l1 A2 c2 l2 R1 R2 w2 (Kd.C_below G1.out HB2.out) hc1 (Kd.C_below G2.out HB2.out) hc2 HKW2.out h0).mono ?_
      rintro e w3 ⟨rfl, hb3⟩
      have HB3 := Aside0.mk (bch HB2.out hb3)
      clear hb3 f0 f1 f2 HB2
      have f0 := (HB3.out.cell (p := ⟨w.heap.size, 0, none⟩) hsz).trans F0.out
      have f1 := (HB3.out.cell (p := ⟨w.heap.size, 1, none⟩) hsz).trans F1.out
      have f2 := (HB3.out.cell (p := ⟨w.heap.size, 2, none⟩) hsz).trans F2.out
      have HC15 := refWrong_calls a0 A1 c1 l1 A2 c2 l2 w3 (Kd.C_below G1.out HB3.out) hc1 (Kd.C_below G2.out HB3.out) hc2 HFt.out
      rw [← HR1.out, ← HR2.out] at HC15
      go_wp2_with fail
      refine HC15.mono ?_
      rintro e w4 ⟨rfl, hb4⟩
      have HB4 := Aside0.mk (bch HB3.out hb4)
      clear hb4 f0 f1 f2 HC15
      go_wp2
      go_ret
      exact ⟨rfl, bch hbw HB4.out⟩

theorem AutoTells_row (x : S25) (cs : List Value) (op nm : ByteArray) (w : World) (hk : k25.K w x cs) (hq : Q25 x) (h1 : op.size ≤ 140737488351232) (h2 : nm.size ≤ 140737488351232) : Calls Try.prog 7 #[.agg cs.toArray, .string op, .string nm] w fun e w' => e = .returned (.bool true) ∧ Below w.heap.size w w' := by
  obtain ⟨A1, c1, A2, c2, rfl, k1, k2, k3, k4⟩ := open25 hk
  exact AutoTells_walk x.f0 A1 c1 x.f1 A2 c2 x.f2 op nm w k2 k1 k4 k3 hq.sz (fun y hy => by
    have hb : reachBytes = 140737488351232 := by decide
    rw [← hb]; exact (hq.2.1.2 y hy).1)
end Go.Proofs.Ytkgcfgoaabkcpaa.Pa
