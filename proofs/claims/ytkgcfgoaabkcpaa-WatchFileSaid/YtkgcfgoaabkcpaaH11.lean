import Derived.Test.YtkgcfgoaabkcpaaH10
namespace Go.Proofs.Ytkgcfgoaabkcpaa.Pa
open Go.RowKit Go.Proofs.YtkgcfgoaabkcpaaW.PrintWords Go.Proofs.YtkgcfgoaabkcpaaW.PrintLast Go.Proofs.YtkgcfgoaabkcpaaW.PrintMore
set_option linter.unusedVariables false
set_option linter.unusedSimpArgs false

def stN (nb : Bool) : Int := if nb = true then 1 else 0
set_option maxHeartbeats 16000000 in
theorem WatchFile_walk (A : Option Addr) (c : Nat) (outs : List Bool) (cl : Bool) (w : World) (hr : Kd.C Kd.bool w A outs.length outs) (hc : outs.length ≤ c) :
    Calls Try.prog 8 #[.slice A outs.length c, .bool cl] w fun e w' => e = .returned (.bool true) ∧ Below w.heap.size w w' := by
  have HR := Lib.hid hr
  have hmx := Kd.C_max hr
  clear hr
  go_enter Try.func8, Try.ntmps8
  go_wp2_with fail
  refine (wawake_calls w).mono ?_
  rintro e w1 ⟨rfl, hb1⟩
  have HB1 := Aside0.mk hb1
  clear hb1
  by_cases hl : outs.length ≤ 30
  case neg =>
    have hl' : 30 < outs.length := by omega
    go_wp2_with fail
    refine (wawake_calls w1).mono ?_
    rintro e w2 ⟨rfl, hb2⟩
    have HB2 := Aside0.mk (bch HB1.out hb2)
    clear hb2
    go_wp2
    go_ret
    exact ⟨rfl, HB2.out⟩
  go_wp2_with fail
  refine (All_calls w1).mono ?_
  rintro e w2 ⟨Ap, cp, rfl, hcp, hCp, hb2⟩
  have HCP := Aside0.mk hCp; have HB2 := Aside0.mk (bch HB1.out hb2)
  clear hCp hb2
  go_wp2_with fail
  refine (New1 Ap cp w2 HCP.out).mono ?_
  rintro e w3 ⟨N, gm, gw, a, b, d, rfl, hO⟩
  have HO3 := Aside0.mk hO
  clear hO
  go_wp2_with fail
  refine (Feed1 w2 w3 N gm gw _ _ 0 0 _ _ _ 0 HO3.out (good_nil a b d 0 false) (by decide) (Nat.zero_le _) (Int.le_refl 0) lz (feed_open a b d)).mono ?_
  rintro e w4 ⟨rfl, hO⟩
  have HO4 := Aside0.mk hO
  clear hO HO3
  go_wp2_with fail
  go_loopg [6, 7, 8] outs.length (fun gg s6 s7 s8 wr => ∃ (i : Nat) (bad : Int) (nb : Bool), i ≤ outs.length ∧ outs.length - i ≤ gg ∧ s8 = .int .i64 i ∧ s6 = .int .i64 bad ∧ s7 = .bool nb ∧ 0 ≤ bad ∧ bad ≤ i ∧ Aside0 (One w2 wr N gm gw (sW a b d [(a, stN nb)] bad false)))
  case atStart => exact ⟨0, 0, false, Nat.zero_le _, by omega, rfl, rfl, rfl, Int.le_refl _, Int.le_refl _, HO4⟩
  case round =>
    clear HO4
    obtain ⟨i, bad, nb, hi, hg, rfl, rfl, rfl, hb0, hb1, HO⟩ := hrel
    obtain ⟨wo, rfl⟩ : ∃ wo : World, wo = wr := ⟨_, rfl⟩
    by_cases hlt : i < outs.length
    · have hltz : (i : Int) < (outs.length : Int) := by omega
      have hltd : decide (i < outs.length) = true := decide_eq_true hlt
      obtain ⟨ad, e0, hw0⟩ := Kd.at_bool HR.out i (by omega) hltz
      simp only [Int.toNat_natCast] at hw0
      cases e0
      generalize rdOf false outs (i : Int) = o at hw0
      have h0 := pw_cell_below (bch HB2.out HO.out.base) hw0
      have HW0 := Lib.hid hw0
      have HB := Lib.hid (show bad ≤ 1000000 by omega)
      clear hw0
      cases nb with
      | false =>
        cases o with
        | false =>
          go_wp2_with fail
          refine (Feed1 w2 _ N gm gw _ _ 2 0 _ _ _ 0 HO.out (good_F a b d 0 bad false (by decide) (by decide)) (by decide) l1 hb0 HB.out (feed_some a b d bad)).mono ?_
          rintro e w5 ⟨rfl, hO⟩
          have HO5 := Aside0.mk hO
          have h5 := pw_cell_below (bch HB2.out HO5.out.base) HW0.out
          clear hO HO h0
          go_wp2
          go_roundg (outs.length - (i + 1))
          case measure => omega
          case rel => exact ⟨i + 1, bad, false, by omega, by omega, by go_num, rfl, rfl, hb0, by omega, HO5⟩
        | true =>
          go_wp2_with fail
          refine (Feed1 w2 _ N gm gw _ _ 2 0 _ _ _ 0 HO.out (good_F a b d 0 bad false (by decide) (by decide)) (by decide) l1 hb0 HB.out (feed_none a b d bad)).mono ?_
          rintro e w5 ⟨rfl, hO⟩
          have HO5 := Aside0.mk hO
          have h5 := pw_cell_below (bch HB2.out HO5.out.base) HW0.out
          clear hO HO h0
          go_wp2
          go_roundg (outs.length - (i + 1))
          case measure => omega
          case rel => exact ⟨i + 1, bad, true, by omega, by omega, by go_num, rfl, rfl, hb0, by omega, HO5⟩
      | true =>
        have HFR := Lib.hid (feed_read1 a b d bad)
        cases o
        all_goals
          go_wp2_with fail
          refine (Feed1 w2 _ N gm gw _ _ 2 0 _ _ _ 0 HO.out (good_F a b d 1 bad false (by decide) (by decide)) (by decide) l1 hb0 HB.out (HFR.out _)).mono ?_
          rintro e w5 ⟨rfl, hO⟩
          have HO5 := Aside0.mk hO
          have h5 := pw_cell_below (bch HB2.out HO5.out.base) HW0.out
          clear hO HO h0
          go_wp2
          go_roundg (outs.length - (i + 1))
          case measure => omega
          case rel => exact ⟨i + 1, bad + 1, true, by omega, by omega, by go_num, rfl, rfl, by omega, by omega, HO5⟩
    · have hltz : ¬ (i : Int) < (outs.length : Int) := by omega
      have hltd : decide (i < outs.length) = false := decide_eq_false hlt
      have HB := Lib.hid (show bad ≤ 1000000 by omega)
      cases cl with
      | true =>
        have HFC : Aside0 (FeedC (sW a b d [(a, stN nb)] bad false) 2 0 ⟨#[99, 108, 111, 115, 101]⟩ ⟨#[111, 107]⟩ = (0, sW a b d [(a, 2)] bad false)) := ⟨by
          cases nb
          · exact feed_close0 a b d bad
          · exact feed_close1 a b d bad⟩
        go_wp2_with fail
        refine (Feed1 w2 _ N gm gw _ _ 2 0 _ _ _ 0 HO.out (good_F a b d (stN nb) bad false (by cases nb <;> decide) (by cases nb <;> decide)) (by decide) l1 hb0 HB.out HFC.out).mono ?_
        rintro e w5 ⟨rfl, hO⟩
        have HO5 := Aside0.mk hO
        clear hO HO HFC
        go_wp2_with fail
        refine (Violations_calls w2 w5 N gm gw _ _ HO5.out.1).mono ?_
        rintro e w6 ⟨rfl, rfl⟩
        go_wp2_with fail
        refine (Open_calls w2 _ N gm gw _ _ HO5.out.1 (good_F a b d 2 bad false (by decide) (by decide)) l1).mono ?_
        rintro e w7 ⟨v, rfl, ⟨Ao, co, rfl, hco, hCo⟩, hb7⟩
        have HO7 := Aside0.mk (HO5.out.below hb7)
        have ho : openL (sW a b d [(a, 2)] bad false).rg (sW a b d [(a, 2)] bad false).hs 0 = [] := open_2 a b d
        rw [ho]
        clear hb7 HO5 hco hCo ho
        go_wp2
        go_ret
        exact ⟨rfl, bch HB2.out HO7.out.base⟩
      | false =>
        go_wp2_with fail
        refine (Violations_calls w2 _ N gm gw _ _ HO.out.1).mono ?_
        rintro e w6 ⟨rfl, rfl⟩
        go_wp2_with fail
        refine (Open_calls w2 _ N gm gw _ _ HO.out.1 (good_F a b d (stN nb) bad false (by cases nb <;> decide) (by cases nb <;> decide)) l1).mono ?_
        rintro e w7 ⟨v, rfl, ⟨Ao, co, rfl, hco, hCo⟩, hb7⟩
        have HO7 := Aside0.mk (HO.out.below hb7)
        have ho : openL (sW a b d [(a, stN nb)] bad false).rg (sW a b d [(a, stN nb)] bad false).hs 0 = [0] := by
          cases nb
          · exact open_0 a b d
          · exact open_1 a b d
        rw [ho]
        clear hb7 HO hco hCo ho
        go_wp2
        go_ret
        exact ⟨rfl, bch HB2.out HO7.out.base⟩

theorem opens64 : Opens Try.prog 64 (Kd.slice 4 Kd.bool) (fun l => l.length * Try.prog.bytesOf 4 ≤ reachBytes ∧ ∀ a ∈ l, True) := opens_slice Try.underlying64 (by kernel_rfl) opens4
theorem WatchFile_row (A : Option Addr) (c : Nat) (x : List Bool) (cl : Bool) (w : World) (hC : Kd.C Kd.bool w A x.length x) (hc : x.length ≤ c) (hq : x.length * Try.prog.bytesOf 4 ≤ reachBytes ∧ ∀ a ∈ x, True) : Calls Try.prog 8 #[.slice A x.length c, .bool cl] w fun e w' => e = .returned (.bool true) ∧ Below w.heap.size w w' :=
  WatchFile_walk A c x cl w hC hc
end Go.Proofs.Ytkgcfgoaabkcpaa.Pa
