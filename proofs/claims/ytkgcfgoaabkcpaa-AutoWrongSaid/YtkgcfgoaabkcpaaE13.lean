import Derived.Test.YtkgcfgoaabkcpaaE12
import Derived.Deep.RegionHeld3
namespace Go.Proofs.Ytkgcfgoaabkcpaa.Pa
open Go.RowKit Go.Proofs.YtkgcfgoaabkcpaaW.PrintWords Go.Proofs.YtkgcfgoaabkcpaaW.PrintLast Go.Proofs.YtkgcfgoaabkcpaaW.PrintMore
set_option linter.unusedVariables false
set_option linter.unusedSimpArgs false

theorem keep3 {w w5 : World} {x0 x1 x2 : Value} {B : Nat} (hb : Below w.drew.heap.size w.drew w5) (hB : B < w.heap.size)
    (h0 : w.cell? ⟨B, 0, none⟩ = some x0) (h1 : w.cell? ⟨B, 1, none⟩ = some x1) (h2 : w.cell? ⟨B, 2, none⟩ = some x2) :
    w5.cell? ⟨B, 0, none⟩ = some x0 ∧ w5.cell? ⟨B, 1, none⟩ = some x1 ∧ w5.cell? ⟨B, 2, none⟩ = some x2 :=
  ⟨(hb.cell (p := ⟨B, 0, none⟩) hB).trans h0, (hb.cell (p := ⟨B, 1, none⟩) hB).trans h1, (hb.cell (p := ⟨B, 2, none⟩) hB).trans h2⟩

set_option maxHeartbeats 8000000 in
theorem AutoWrong_walk (a0 : ByteArray) (A1 : Option Addr) (c1 : Nat) (l1 : List S62) (A2 : Option Addr) (c2 : Nat) (l2 : List S39) (w : World)
    (hr1 : Kd.C k62 w A1 l1.length l1) (hc1 : l1.length ≤ c1) (hr2 : Kd.C k39 w A2 l2.length l2) (hc2 : l2.length ≤ c2) (hz : SzP l1 l2) :
    Calls Try.prog 3 #[.agg #[.string a0, .slice A1 l1.length c1, .slice A2 l2.length c2]] w fun e w' => e = .returned (.bool true) ∧ Below w.heap.size w w' := by
  obtain ⟨W0, hW0⟩ : ∃ W0, W0 = w.alloc (.cells #[.string a0, .slice A1 l1.length c1, .slice A2 l2.length c2] 25) := ⟨_, rfl⟩
  have hbw : Below w.heap.size w W0 := by rw [hW0]; exact (Below.refl w.heap.size w).alloc (Nat.le_refl _) _
  have hsz : w.heap.size < W0.heap.size := by rw [hW0]; simp
  have F0 := Lib.hid (show W0.cell? ⟨w.heap.size, 0, none⟩ = some (.string a0) by rw [hW0, World.cell?_alloc_at _ _ _ _ rfl]; rfl)
  have F1 := Lib.hid (show W0.cell? ⟨w.heap.size, 1, none⟩ = some (.slice A1 l1.length c1) by rw [hW0, World.cell?_alloc_at _ _ _ _ rfl]; rfl)
  have F2 := Lib.hid (show W0.cell? ⟨w.heap.size, 2, none⟩ = some (.slice A2 l2.length c2) by rw [hW0, World.cell?_alloc_at _ _ _ _ rfl]; rfl)
  have G1 := Lib.hid (Kd.C_below hr1 hbw)
  have G2 := Lib.hid (Kd.C_below hr2 hbw)
  have HZ := Lib.hid hz
  obtain ⟨bs, ks, hks, hfits⟩ := small_f a0 l1 l2 hz
  have HKS := Lib.hid hks; have HFITS := Lib.hid hfits
  clear hr1 hr2 hz hks hfits
  go_enter Try.func3, Try.ntmps3
  go_wp2_with fail
  rw [← hW0]
  refine (awake_calls W0).mono ?_
  rintro e w1 ⟨rfl, hb1⟩
  have f0 := (hb1.cell (p := ⟨w.heap.size, 0, none⟩) hsz).trans F0.out
  have f1 := (hb1.cell (p := ⟨w.heap.size, 1, none⟩) hsz).trans F1.out
  have f2 := (hb1.cell (p := ⟨w.heap.size, 2, none⟩) hsz).trans F2.out
  have HB1 := Aside0.mk hb1
  clear hb1 hW0
  go_wp2_with fail
  refine (ballcockref09_Small.calls ks a0 A1 c1 l1 A2 c2 l2 bs w1 (Kd.C_below G1.out HB1.out) hc1 (Kd.C_below G2.out HB1.out) hc2 HKS.out).mono ?_
  rintro e w2 ⟨rfl, hb2⟩
  have HB2 := Aside0.mk (bch HB1.out hb2)
  clear hb2 f0 f1 f2 HB1
  cases bs with
  | false =>
    go_wp2_with fail
    refine (awake_calls w2).mono ?_
    rintro e w3 ⟨rfl, hb3⟩
    have HB3 := Aside0.mk (bch HB2.out hb3)
    clear hb3
    go_wp2
    go_ret
    exact ⟨rfl, bch hbw HB3.out⟩
  | true =>
    have hf80 := HFITS.out rfl
    have HFt := Lib.hid (show Fits l1 l2 from ⟨by omega, by omega, fun m hm => by have := hf80.2.2 m hm; omega⟩)
    clear hf80 HFITS
    have f0 := (HB2.out.cell (p := ⟨w.heap.size, 0, none⟩) hsz).trans F0.out
    have f1 := (HB2.out.cell (p := ⟨w.heap.size, 1, none⟩) hsz).trans F1.out
    have f2 := (HB2.out.cell (p := ⟨w.heap.size, 2, none⟩) hsz).trans F2.out
    obtain ⟨kw, hkw⟩ := wrong_f a0 l1 l2 HFt.out
    have HKW := Lib.hid hkw; clear hkw
    obtain ⟨R1, hR1⟩ : ∃ R1, R1 = (wrongF l1 l2).1 := ⟨_, rfl⟩
    obtain ⟨R2, hR2⟩ : ∃ R2, R2 = (wrongF l1 l2).2 := ⟨_, rfl⟩
    have HKW2 := Lib.hid (show auto_Wrong.f kw a0 l1 l2 = some (R1, R2) by rw [hR1, hR2]; exact HKW.out)
    have HR1 := Lib.hid hR1; have HR2 := Lib.hid hR2
    clear hR1 hR2
    go_wp2_with fail
    refine (auto_Wrong.calls kw a0 A1 c1 l1 A2 c2 l2 R1 R2 w2 (Kd.C_below G1.out HB2.out) hc1 (Kd.C_below G2.out HB2.out) hc2 HKW2.out).mono ?_
    rintro e w3 ⟨rfl, hb3⟩
    have HB3 := Aside0.mk (bch HB2.out hb3)
    clear hb3 f0 f1 f2 HB2
    have f0 := (HB3.out.cell (p := ⟨w.heap.size, 0, none⟩) hsz).trans F0.out
    have f1 := (HB3.out.cell (p := ⟨w.heap.size, 1, none⟩) hsz).trans F1.out
    have f2 := (HB3.out.cell (p := ⟨w.heap.size, 2, none⟩) hsz).trans F2.out
    have HC15 := refWrong_calls a0 A1 c1 l1 A2 c2 l2 w3 (Kd.C_below G1.out HB3.out) hc1 (Kd.C_below G2.out HB3.out) hc2 HFt.out
    rw [← HR1.out, ← HR2.out] at HC15
    go_wp2_with fail
    refine HC15.mono ?_
    rintro e w4 ⟨rfl, hb4⟩
    have HB4 := Aside0.mk (bch HB3.out hb4)
    clear hb4 f0 f1 f2 HB3 HC15
    have f0 := (HB4.out.cell (p := ⟨w.heap.size, 0, none⟩) hsz).trans F0.out
    have f1 := (HB4.out.cell (p := ⟨w.heap.size, 1, none⟩) hsz).trans F1.out
    have f2 := (HB4.out.cell (p := ⟨w.heap.size, 2, none⟩) hsz).trans F2.out
    by_cases h0 : R1 = 0
    · subst h0
      go_wp2_with fail
      refine (New_yes kw a0 A1 c1 l1 A2 c2 l2 R2 w4 (Kd.C_below G1.out HB4.out) hc1 (Kd.C_below G2.out HB4.out) hc2 HKW2.out HFt.out).mono ?_
      rintro e w5 ⟨g, rfl, hat, _, hb5⟩
      have HB5 := Aside0.mk (bch HB4.out hb5)
      have HAT := Aside0.mk hat
      clear hb5 f0 f1 f2 HB4 hat
      have f0 := (HB5.out.cell (p := ⟨w.heap.size, 0, none⟩) hsz).trans F0.out
      have f1 := (HB5.out.cell (p := ⟨w.heap.size, 1, none⟩) hsz).trans F1.out
      have f2 := (HB5.out.cell (p := ⟨w.heap.size, 2, none⟩) hsz).trans F2.out
      obtain ⟨kl, hkl⟩ := like_f a0 l1 l2 HFt.out
      have HKL := Lib.hid hkl; clear hkl
      have hsz5 : w.heap.size < w5.heap.size := World.block_lt_of_cell? w5 _ f0
      have Q0 := Lib.hid f0; have Q1 := Lib.hid f1; have Q2 := Lib.hid f2
      go_wp2_with fail
      go_region_held3 (fun w' => w'.cell? ⟨w.heap.size, 0, none⟩ = some (.string a0) ∧ w'.cell? ⟨w.heap.size, 1, none⟩ = some (.slice A1 l1.length c1) ∧ w'.cell? ⟨w.heap.size, 2, none⟩ = some (.slice A2 l2.length c2))
        (first | go_keep | exact keep3 HB6.out hsz5 Q0.out Q1.out Q2.out | exact keep3 (bch HB6.out HB7.out) hsz5 Q0.out Q1.out Q2.out)
        ((first
          | (go_at_call 18; refine (Proto_calls g a0 l1 l2 _ (AutoAt.below HAT.out (by first | exact Below.drew (Below.refl _ _) | exact Below.refl _ _)) HFt.out).mono ?_; rintro e w6 ⟨A1', c1', A2', c2', rfl, k1', p1', k2', p2', hb6⟩; have HB6 := Aside0.mk hb6; have K1 := Aside0.mk p1'; have K2 := Aside0.mk p2'; clear hb6 p1' p2')
          | (go_at_call 17; refine (ballcockref09_Like.calls kl a0 A1' c1' l1 A2' c2' l2 a0 A1 c1 l1 A2 c2 l2 true _ K1.out k1' K2.out k2' (Kd.C_below G1.out (bch HB5.out (bch (Below.drew (Below.refl _ _)) HB6.out))) hc1 (Kd.C_below G2.out (bch HB5.out (bch (Below.drew (Below.refl _ _)) HB6.out))) hc2 HKL.out).mono ?_; rintro e w7 ⟨rfl, hb7⟩; have HB7 := Aside0.mk hb7; clear hb7)))
      all_goals
        go_wp2
        go_ret
        exact ⟨rfl, bch hbw (bch HB5.out (bch (bch (Below.drew (Below.refl _ _)) HB6.out) HB7.out))⟩
    · have h0' : (R1 == 0) = false := beq_eq_false_iff_ne.mpr h0
      go_wp2_with fail
      refine (New_no kw a0 A1 c1 l1 A2 c2 l2 R1 R2 w4 (Kd.C_below G1.out HB4.out) hc1 (Kd.C_below G2.out HB4.out) hc2 HKW2.out h0).mono ?_
      rintro e w5 ⟨rfl, hb5⟩
      have HB5 := Aside0.mk (bch HB4.out hb5)
      clear hb5 f0 f1 f2 HB4
      have f0 := (HB5.out.cell (p := ⟨w.heap.size, 0, none⟩) hsz).trans F0.out
      have f1 := (HB5.out.cell (p := ⟨w.heap.size, 1, none⟩) hsz).trans F1.out
      have f2 := (HB5.out.cell (p := ⟨w.heap.size, 2, none⟩) hsz).trans F2.out
      go_wp2_with fail
      go_quiet (fail)
      go_wp2
      go_ret
      exact ⟨rfl, bch hbw (bch HB5.out (pw_below_drewN (Below.refl _ _) _))⟩
end Go.Proofs.Ytkgcfgoaabkcpaa.Pa
