import Derived.Test.YtkgcfgoaabkcpaaB4

/-! ## part E7 -/
namespace Go.Proofs.Ytkgcfgoaabkcpaa.Pa
open Go.RowKit Go.Proofs.YtkgcfgoaabkcpaaW.PrintWords Go.Proofs.YtkgcfgoaabkcpaaW.PrintLast Go.Proofs.YtkgcfgoaabkcpaaW.PrintMore
set_option linter.unusedVariables false
set_option linter.unusedSimpArgs false

/-! ### What is wrong of a protocol, in stages -/
def endsB (l1 : List S62) (l2 : List S39) (i : Nat) : Bool := if (rd_T62 l1 i).f1 = true then true else endsK l1 l2 l1.length [(i : Int)]
def wf5 (l1 : List S62) (l2 : List S39) : Int × Int := if 0 ≤ idxP (fun i => !endsB l1 l2 i) (List.range l1.length) then (5, idxP (fun i => !endsB l1 l2 i) (List.range l1.length)) else (0, 0)
def badK (l1 : List S62) (l2 : List S39) (kind i : Nat) : Bool :=
  if kind = 2 then !fitB l1.length (rd_T39 l2 i).f1 (rd_T39 l2 i).f2 else if kind = 3 then againB l2 i else (rd_T62 l1 (rd_T39 l2 i).f1).f1
def wfFrom (l1 : List S62) (l2 : List S39) : Nat → Int × Int
  | 0 => wf5 l1 l2
  | d + 1 => if 0 ≤ idxP (badK l1 l2 (4 - d)) (List.range l2.length) then (((4 - d : Nat) : Int), idxP (badK l1 l2 (4 - d)) (List.range l2.length)) else wfFrom l1 l2 d
def wf1 (l1 : List S62) (l2 : List S39) : Int × Int := if 0 ≤ twiceF l1.length (fun i => (rd_T62 l1 i).f0) then (1, twiceF l1.length (fun i => (rd_T62 l1 i).f0)) else wfFrom l1 l2 3
def wrongF (l1 : List S62) (l2 : List S39) : Int × Int := if l1.length < 1 ∨ 16 < l1.length then (1, 0) else wf1 l1 l2

theorem idxR_hit (p : Nat → Bool) (n i : Nat) (hi : i < n) (hp : p i = true) (hb : ∀ j, j < i → p j = false) : idxP p (List.range n) = i :=
  idxP_hit p _ i i (by simp [hi]) hp (fun j y hj hy => by rw [List.getElem?_range (by omega)] at hy; cases hy; exact hb j hj)
theorem idxR_miss (p : Nat → Bool) (n : Nat) (hb : ∀ j, j < n → p j = false) : idxP p (List.range n) = -1 :=
  idxP_miss p _ (fun y hy => hb y (by simpa using hy))
/-- All moves are from and to states. -/
def AllFit (l1 : List S62) (l2 : List S39) : Prop := ∀ i, i < l2.length → fitB l1.length (rd_T39 l2 i).f1 (rd_T39 l2 i).f2 = true
theorem AllFit.inAll {l1 : List S62} {l2 : List S39} (h : AllFit l1 l2) : InAll l1 l2 := by
  intro m hm o ho
  obtain ⟨i, hi, rfl⟩ := List.getElem_of_mem hm
  have := h i hi
  rw [rd39_at hi] at this
  unfold fitB at this
  simp only [Bool.and_eq_true, Bool.not_eq_true', List.any_eq_false] at this
  have h2 := this.2 o ho
  unfold inB at h2
  simp at h2
  exact h2
theorem AllFit.from_ {l1 : List S62} {l2 : List S39} (h : AllFit l1 l2) {i : Nat} (hi : i < l2.length) : 0 ≤ (rd_T39 l2 i).f1 ∧ (rd_T39 l2 i).f1 < l1.length := by
  have := h i hi
  unfold fitB inB at this
  simp only [Bool.and_eq_true, decide_eq_true_eq] at this
  exact this.1.1

theorem beq_comm' (x y : List UInt8) : (x == y) = (y == x) := by
  rw [Bool.eq_iff_iff]; simp; exact eq_comm
theorem keep6 {w w5 : World} {x0 x1 x2 x3 x4 x5 : Value} {B : Nat} {ad : Addr} (hb : Below w.drew.heap.size w.drew w5) (hB : B < w.heap.size) (hM : ad.block < w.heap.size)
    (h0 : w.cell? ⟨B, 0, none⟩ = some x0) (h1 : w.cell? ⟨B, 1, none⟩ = some x1) (h2 : w.cell? ⟨B, 2, none⟩ = some x2) (h3 : w.cell? ad = some x3) (h4 : w.cell? ⟨ad.block, ad.off + 1, none⟩ = some x4) (h5 : w.cell? ⟨ad.block, ad.off + 2, none⟩ = some x5) :
    w5.cell? ⟨B, 0, none⟩ = some x0 ∧ w5.cell? ⟨B, 1, none⟩ = some x1 ∧ w5.cell? ⟨B, 2, none⟩ = some x2 ∧ w5.cell? ad = some x3 ∧ w5.cell? ⟨ad.block, ad.off + 1, none⟩ = some x4 ∧ w5.cell? ⟨ad.block, ad.off + 2, none⟩ = some x5 :=
  ⟨(hb.cell (p := ⟨B, 0, none⟩) hB).trans h0, (hb.cell (p := ⟨B, 1, none⟩) hB).trans h1, (hb.cell (p := ⟨B, 2, none⟩) hB).trans h2, (hb.cell (p := ad) hM).trans h3, (hb.cell (p := ⟨ad.block, ad.off + 1, none⟩) hM).trans h4, (hb.cell (p := ⟨ad.block, ad.off + 2, none⟩) hM).trans h5⟩
theorem wf1_dup {l1 : List S62} {l2 : List S39} {i k : Nat} {R1 R2 : Int} (hi : i < l1.length) (hk : k < i) (h : ((rd_T62 l1 k).f0.toList == (rd_T62 l1 i).f0.toList) = true) (hb : ∀ j, j < i → dupAt (fun i => (rd_T62 l1 i).f0) j = false) (hR : wf1 l1 l2 = (R1, R2)) : R1 = 1 ∧ R2 = i := by
  have := twice_hit l1.length (fun i => (rd_T62 l1 i).f0) i k hi hk h hb
  unfold wf1 at hR
  rw [← this, if_pos (by omega)] at hR
  cases hR; exact ⟨rfl, rfl⟩
theorem wf1_nodup {l1 : List S62} {l2 : List S39} {R1 R2 : Int} (hb : ∀ j, j < l1.length → dupAt (fun i => (rd_T62 l1 i).f0) j = false) (hR : wf1 l1 l2 = (R1, R2)) : wfFrom l1 l2 3 = (R1, R2) := by
  have := twice_miss l1.length (fun i => (rd_T62 l1 i).f0) hb
  unfold wf1 at hR
  rw [← this, if_neg (by omega)] at hR
  exact hR
theorem wfFrom_next {l1 : List S62} {l2 : List S39} {kd : Nat} {R1 R2 : Int} (h2 : 2 ≤ kd) (h4 : kd ≤ 4) (hb : ∀ j, j < l2.length → badK l1 l2 kd j = false) (hR : wfFrom l1 l2 (5 - kd) = (R1, R2)) : wfFrom l1 l2 (5 - (kd + 1)) = (R1, R2) := by
  rw [show 5 - kd = (4 - kd) + 1 by omega, wfFrom, show 4 - (4 - kd) = kd by omega, idxR_miss _ _ hb, if_neg (by omega)] at hR
  rw [show 5 - (kd + 1) = 4 - kd by omega]; exact hR
theorem wfFrom_hit {l1 : List S62} {l2 : List S39} {kd i : Nat} {R1 R2 : Int} (h2 : 2 ≤ kd) (h4 : kd ≤ 4) (hi : i < l2.length) (hp : badK l1 l2 kd i = true) (hb : ∀ j, j < i → badK l1 l2 kd j = false) (hR : wfFrom l1 l2 (5 - kd) = (R1, R2)) : R1 = kd ∧ R2 = i := by
  rw [show 5 - kd = (4 - kd) + 1 by omega, wfFrom, show 4 - (4 - kd) = kd by omega, idxR_hit _ _ i hi hp hb, if_pos (by omega)] at hR
  cases hR; exact ⟨rfl, rfl⟩
theorem wf5_hit {l1 : List S62} {l2 : List S39} {i : Nat} {R1 R2 : Int} (hi : i < l1.length) (hp : (!endsB l1 l2 i) = true) (hb : ∀ j, j < i → (!endsB l1 l2 j) = false) (hR : wf5 l1 l2 = (R1, R2)) : R1 = 5 ∧ R2 = i := by
  unfold wf5 at hR
  rw [idxR_hit _ _ i hi hp hb, if_pos (by omega)] at hR
  cases hR; exact ⟨rfl, rfl⟩
theorem wf5_miss {l1 : List S62} {l2 : List S39} {R1 R2 : Int} (hb : ∀ j, j < l1.length → (!endsB l1 l2 j) = false) (hR : wf5 l1 l2 = (R1, R2)) : R1 = 0 ∧ R2 = 0 := by
  unfold wf5 at hR
  rw [idxR_miss _ _ hb, if_neg (by omega)] at hR
  cases hR; exact ⟨rfl, rfl⟩
theorem allFit_next {l1 : List S62} {l2 : List S39} {kd : Nat} (h : 3 ≤ kd → AllFit l1 l2) (h2 : 2 ≤ kd) (hb : ∀ j, j < l2.length → badK l1 l2 kd j = false) : AllFit l1 l2 := by
  by_cases h3 : 3 ≤ kd
  · exact h h3
  · obtain rfl : kd = 2 := by omega
    intro i hi
    have := hb i hi
    unfold badK at this
    rw [if_pos rfl] at this
    simpa using this

set_option maxHeartbeats 16000000 in
set_option maxRecDepth 100000 in
theorem refWrong_walk (a0 : ByteArray) (A1 : Option Addr) (c1 : Nat) (l1 : List S62) (A2 : Option Addr) (c2 : Nat) (l2 : List S39) (R1 R2 : Int) (w : World)
    (hr1 : Kd.C k62 w A1 l1.length l1) (hc1 : l1.length ≤ c1) (hr2 : Kd.C k39 w A2 l2.length l2) (hc2 : l2.length ≤ c2) (hf : Fits l1 l2) (h1 : 1 ≤ l1.length) (h16 : l1.length ≤ 16) (hR : wf1 l1 l2 = (R1, R2)) :
    Calls Try.prog 15 #[.agg #[.string a0, .slice A1 l1.length c1, .slice A2 l2.length c2]] w fun e w' => e = .returned (.tuple #[.int .i64 R1, .int .i64 R2]) ∧ Below w.heap.size w w' := by
  have HR1 := Lib.hid hr1; have HR2 := Lib.hid hr2; have HF := Lib.hid hf; have HR := Lib.hid hR
  clear hr1 hr2 hf hR
  have hd1 : decide (l1.length < 1) = false := decide_eq_false (by omega)
  have hd2 : decide (16 < l1.length) = false := decide_eq_false (by omega)
  obtain ⟨W0, hW0⟩ : ∃ W0, W0 = w.alloc (.cells #[.string a0, .slice A1 l1.length c1, .slice A2 l2.length c2] 25) := ⟨_, rfl⟩
  have hbw : Below w.heap.size w W0 := by rw [hW0]; exact (Below.refl w.heap.size w).alloc (Nat.le_refl _) _
  have hsz : w.heap.size < W0.heap.size := by rw [hW0]; simp
  have F0 := Lib.hid (show W0.cell? ⟨w.heap.size, 0, none⟩ = some (.string a0) by rw [hW0, World.cell?_alloc_at _ _ _ _ rfl]; rfl)
  have F1 := Lib.hid (show W0.cell? ⟨w.heap.size, 1, none⟩ = some (.slice A1 l1.length c1) by rw [hW0, World.cell?_alloc_at _ _ _ _ rfl]; rfl)
  have F2 := Lib.hid (show W0.cell? ⟨w.heap.size, 2, none⟩ = some (.slice A2 l2.length c2) by rw [hW0, World.cell?_alloc_at _ _ _ _ rfl]; rfl)
  have G1 := Lib.hid (Kd.C_below HR1.out hbw)
  have G2 := Lib.hid (Kd.C_below HR2.out hbw)
  clear HR1 HR2
  go_enter Try.func15, Try.ntmps15
  go_wp2
  rw [← hW0]
  clear hW0
  go_loopg [5] l1.length (fun gg s5 wr => ∃ i : Nat, i ≤ l1.length ∧ l1.length - i ≤ gg ∧ s5 = .int .i64 i ∧ Aside0 (∀ j, j < i → dupAt (fun i => (rd_T62 l1 i).f0) j = false) ∧ Aside0 (Below W0.heap.size W0 wr))
  case atStart => exact ⟨0, Nat.zero_le _, by omega, rfl, ⟨fun j hj => absurd hj (Nat.not_lt_zero _)⟩, ⟨Below.refl _ _⟩⟩
  case round =>
    obtain ⟨i, hi, hg, rfl, HA, BW⟩ := hrel
    by_cases hlt : i < l1.length
    · have hltz : (i : Int) < (l1.length : Int) := by omega
      obtain ⟨wo, rfl⟩ : ∃ wo : World, wo = wr := ⟨_, rfl⟩
      go_wp2
      go_loopg [6] i (fun g2 s6 wr => ∃ k : Nat, k ≤ i ∧ i - k ≤ g2 ∧ s6 = .int .i64 k ∧ Aside0 (∀ j, j < k → ((rd_T62 l1 (j : Nat)).f0.toList == (rd_T62 l1 i).f0.toList) = false) ∧ Aside0 (Below W0.heap.size W0 wr))
      case atStart => exact ⟨0, Nat.zero_le _, by omega, rfl, ⟨fun j hj => absurd hj (Nat.not_lt_zero _)⟩, BW⟩
      case round =>
        clear BW
        obtain ⟨k, hk, hg2, rfl, HA2, BW⟩ := hrel
        by_cases hlk : k < i
        · have hlkz : (k : Int) < (i : Int) := by omega
          have hlkz2 : (k : Int) < (l1.length : Int) := by omega
          have f1 := (BW.out.cell (p := ⟨w.heap.size, 1, none⟩) hsz).trans F1.out
          obtain ⟨ad1, e1, x0, x1⟩ := at_T62 (Kd.C_below G1.out BW.out) i (by omega) hltz
          obtain ⟨ad2, e2, y0, y1⟩ := at_T62 (Kd.C_below G1.out BW.out) k (by omega) hlkz2
          simp only [Int.toNat_natCast] at x0 x1 y0 y1
          cases e1; cases e2
          cases hq : ((rd_T62 l1 i).f0.toList == (rd_T62 l1 k).f0.toList) with
          | true =>
            go_wp2
            go_quiet (fail)
            go_wp2
            go_ret2
            refine ⟨?_, bch hbw (bch BW.out (pw_below_drewN (Below.refl _ _) _))⟩
            obtain ⟨rfl, rfl⟩ := wf1_dup hlt hlk (by rw [beq_comm']; exact hq) HA.out HR.out
            rfl
          | false =>
            go_wp2
            go_quiet (fail)
            go_wp2
            go_roundg (i - (k + 1))
            case measure => omega
            case rel =>
              refine ⟨k + 1, by omega, by omega, by go_num, ⟨fun j hj => ?_⟩, ⟨bch BW.out (pw_below_drewN (Below.refl _ _) _)⟩⟩
              by_cases e : j = k
              · subst e; rw [beq_comm']; exact hq
              · exact HA2.out j (by omega)
        · have hlkz : ¬ (k : Int) < (i : Int) := by omega
          go_wp2
          go_roundg (l1.length - (i + 1))
          case measure => omega
          case rel =>
            refine ⟨i + 1, by omega, by omega, by go_num, ⟨fun j hj => ?_⟩, BW⟩
            by_cases e : j = i
            · subst e
              exact dup_none _ j (fun q hq => HA2.out q (by omega))
            · exact HA.out j (by omega)
    · have hltz : ¬ (i : Int) < (l1.length : Int) := by omega
      have HR3 := Lib.hid (wf1_nodup (fun j hj => HA.out j (by omega)) HR.out)
      clear HR HA
      go_wp2
      go_loopg [7] 3 (fun gg s7 wr => ∃ kd : Nat, 2 ≤ kd ∧ kd ≤ 5 ∧ 5 - kd ≤ gg ∧ s7 = .int .i64 kd ∧ Aside0 (wfFrom l1 l2 (5 - kd) = (R1, R2)) ∧ Aside0 (3 ≤ kd → AllFit l1 l2) ∧ Aside0 (Below W0.heap.size W0 wr))
      case atStart => exact ⟨2, by omega, by omega, by omega, rfl, ⟨HR3.out⟩, ⟨fun h => absurd h (by omega)⟩, BW⟩
      case round =>
        clear BW HR3
        obtain ⟨kd, hk2, hk5, hg, rfl, HRK, HAF, BW⟩ := hrel
        by_cases hlt : kd ≤ 4
        · have hltz : (kd : Int) ≤ 4 := by omega
          obtain ⟨wo, rfl⟩ : ∃ wo : World, wo = wr := ⟨_, rfl⟩
          have hml := Kd.C_max G2.out
          go_wp2
          go_loopg [8] l2.length (fun g2 s8 wr => ∃ i : Nat, i ≤ l2.length ∧ l2.length - i ≤ g2 ∧ s8 = .int .i64 i ∧ Aside0 (∀ j, j < i → badK l1 l2 kd j = false) ∧ Aside0 (Below W0.heap.size W0 wr))
          case atStart => exact ⟨0, Nat.zero_le _, by omega, rfl, ⟨fun j hj => absurd hj (Nat.not_lt_zero _)⟩, BW⟩
          case round =>
            clear BW
            obtain ⟨i, hi, hg2, rfl, HA, BW⟩ := hrel
            have f0 := (BW.out.cell (p := ⟨w.heap.size, 0, none⟩) hsz).trans F0.out
            have f1 := (BW.out.cell (p := ⟨w.heap.size, 1, none⟩) hsz).trans F1.out
            have f2 := (BW.out.cell (p := ⟨w.heap.size, 2, none⟩) hsz).trans F2.out
            by_cases hli : i < l2.length
            · have hliz : (i : Int) < (l2.length : Int) := by omega
              have hlid : decide (i < l2.length) = true := decide_eq_true hli
              obtain ⟨adm, Am, cm, em, hm0, hm1, hm2, hmc, hmo⟩ := at_T39 (Kd.C_below G2.out BW.out) i (by omega) hliz
              cases em
              simp only [Int.toNat_natCast] at hm0 hm1 hm2
              have HMO := Aside0.mk hmo; clear hmo
              have hflen : (rd_T39 l2 i).f2.length ≤ 1000 := HF.out.2.2 _ (rd39_mem hli)
              have hltB : w.heap.size < wr.heap.size := World.block_lt_of_cell? wr _ f0
              have hltM : (adm.add (i * 3)).block < wr.heap.size := World.block_lt_of_cell? wr _ hm0
              have P0 := Lib.hid f0; have P1 := Lib.hid f1; have P2 := Lib.hid f2; have P3 := Lib.hid hm0; have P4 := Lib.hid hm1; have P5 := Lib.hid hm2
              by_cases hk : kd = 2
              · subst hk
                have HC := Lib.hid (fun x : At wr => Calls.at_ (ballcockref09_fit.calls ((rd_T39 l2 i).f2.length + 1) a0 A1 c1 l1 (some adm) c2 l2 (rd_T39 l2 i).f0 (rd_T39 l2 i).f1 Am cm (rd_T39 l2 i).f2 (fitB l1.length (rd_T39 l2 i).f1 (rd_T39 l2 i).f2) x.1 (Kd.C_below G1.out (bch BW.out x.2)) hc1 (Kd.C_below G2.out (bch BW.out x.2)) hc2 (Kd.C_below HMO.out x.2) hmc (fit_f a0 l1 l2 _ _ _ (by omega))))
                have hbad : badK l1 l2 2 i = !fitB l1.length (rd_T39 l2 i).f1 (rd_T39 l2 i).f2 := rfl
                have f0' := fun x : At wr => At.cell P0.out x
                have f1' := fun x : At wr => At.cell P1.out x
                have f2' := fun x : At wr => At.cell P2.out x
                have m0' := fun x : At wr => At.cell P3.out x
                have m1' := fun x : At wr => At.cell P4.out x
                have m2' := fun x : At wr => At.cell P5.out x
                cases hq : fitB l1.length (rd_T39 l2 i).f1 (rd_T39 l2 i).f2 with
                | true =>
                  rw [hq] at HC hbad
                  have HBAD := Lib.hid hbad; clear hbad
                  go_wp2
                  refine wp_region_at (by kernel_rfl) (by kernel_rfl) ?_
                  repeat (go_big_quiet_step ((go_at_call 53; exact HC.out _)))
                  refine wpQuiet_nil ?_
                  intro _ hw'
                  obtain ⟨⟨w5, hb5⟩, rfl⟩ := hw'
                  have HB5 := Aside0.mk hb5
                  clear hb5
                  go_wp2
                  go_roundg (l2.length - (i + 1))
                  case measure => omega
                  case rel =>
                    refine ⟨i + 1, by omega, by omega, by go_num, ⟨fun j hj => ?_⟩, ⟨bch BW.out HB5.out⟩⟩
                    by_cases e : j = i
                    · subst e; rw [HBAD.out]; rfl
                    · exact HA.out j (by omega)
                | false =>
                  rw [hq] at HC hbad
                  have HBAD := Lib.hid hbad; clear hbad
                  go_wp2
                  refine wp_region_at (by kernel_rfl) (by kernel_rfl) ?_
                  repeat (go_big_quiet_step ((go_at_call 53; exact HC.out _)))
                  refine wpQuiet_nil ?_
                  intro _ hw'
                  obtain ⟨⟨w5, hb5⟩, rfl⟩ := hw'
                  have HB5 := Aside0.mk hb5
                  clear hb5
                  go_wp2
                  go_ret2
                  refine ⟨?_, bch hbw (bch BW.out HB5.out)⟩
                  obtain ⟨rfl, rfl⟩ := wfFrom_hit (by omega) (by omega) hli (by rw [HBAD.out]; rfl) HA.out HRK.out
                  rfl
              · by_cases hk3 : kd = 3
                · subst hk3
                  obtain ⟨ka, hka⟩ := again_f a0 l1 l2 i hli (by have := HF.out.2.1; omega) (by omega)
                  have HC := Lib.hid (fun x : At wr => Calls.at_ (ballcockref09_again.calls ka a0 A1 c1 l1 (some adm) c2 l2 (i : Int) (againB l2 i) x.1 (Kd.C_below G1.out (bch BW.out x.2)) hc1 (Kd.C_below G2.out (bch BW.out x.2)) hc2 hka))
                  have hbad : badK l1 l2 3 i = againB l2 i := rfl
                  clear hka
                  have f0' := fun x : At wr => At.cell P0.out x
                  have f1' := fun x : At wr => At.cell P1.out x
                  have f2' := fun x : At wr => At.cell P2.out x
                  cases hq : againB l2 i with
                  | true =>
                    rw [hq] at HC hbad
                    have HBAD := Lib.hid hbad; clear hbad
                    go_wp2
                    refine wp_region_at (by kernel_rfl) (by kernel_rfl) ?_
                    repeat (go_big_quiet_step ((go_at_call 54; exact HC.out _)))
                    refine wpQuiet_nil ?_
                    intro _ hw'
                    obtain ⟨⟨w5, hb5⟩, rfl⟩ := hw'
                    have HB5 := Aside0.mk hb5
                    clear hb5
                    go_wp2
                    go_ret2
                    refine ⟨?_, bch hbw (bch BW.out HB5.out)⟩
                    obtain ⟨rfl, rfl⟩ := wfFrom_hit (by omega) (by omega) hli (by rw [HBAD.out]) HA.out HRK.out
                    rfl
                  | false =>
                    rw [hq] at HC hbad
                    have HBAD := Lib.hid hbad; clear hbad
                    go_wp2
                    refine wp_region_at (by kernel_rfl) (by kernel_rfl) ?_
                    repeat (go_big_quiet_step ((go_at_call 54; exact HC.out _)))
                    refine wpQuiet_nil ?_
                    intro _ hw'
                    obtain ⟨⟨w5, hb5⟩, rfl⟩ := hw'
                    have HB5 := Aside0.mk hb5
                    clear hb5
                    go_wp2
                    go_roundg (l2.length - (i + 1))
                    case measure => omega
                    case rel =>
                      refine ⟨i + 1, by omega, by omega, by go_num, ⟨fun j hj => ?_⟩, ⟨bch BW.out HB5.out⟩⟩
                      by_cases e : j = i
                      · subst e; rw [HBAD.out]
                      · exact HA.out j (by omega)
                · obtain rfl : kd = 4 := by omega
                  have hbad : badK l1 l2 4 i = (rd_T62 l1 (rd_T39 l2 i).f1).f1 := rfl
                  obtain ⟨hfr0, hfr1⟩ := (HAF.out (by omega)).from_ hli
                  obtain ⟨ads, es, hs0, hs1⟩ := at_T62 (Kd.C_below G1.out BW.out) (rd_T39 l2 i).f1 hfr0 hfr1
                  cases es
                  have f0' := fun x : At wr => At.cell P0.out x
                  have f1' := fun x : At wr => At.cell P1.out x
                  have f2' := fun x : At wr => At.cell P2.out x
                  have m1' := fun x : At wr => At.cell P4.out x
                  have s1' := fun x : At wr => At.cell hs1 x
                  clear hs0 hs1
                  cases hq : (rd_T62 l1 (rd_T39 l2 i).f1).f1 with
                  | true =>
                    rw [hq] at hbad s1'
                    have HBAD := Lib.hid hbad; clear hbad
                    go_wp2
                    refine wp_region_at (by kernel_rfl) (by kernel_rfl) ?_
                    repeat (go_big_quiet_step ((fail)))
                    refine wpQuiet_nil ?_
                    intro _ hw'
                    obtain ⟨⟨w5, hb5⟩, rfl⟩ := hw'
                    have HB5 := Aside0.mk hb5
                    clear hb5
                    go_wp2
                    go_ret2
                    refine ⟨?_, bch hbw (bch BW.out HB5.out)⟩
                    obtain ⟨rfl, rfl⟩ := wfFrom_hit (by omega) (by omega) hli (by rw [HBAD.out]) HA.out HRK.out
                    rfl
                  | false =>
                    rw [hq] at hbad s1'
                    have HBAD := Lib.hid hbad; clear hbad
                    go_wp2
                    refine wp_region_at (by kernel_rfl) (by kernel_rfl) ?_
                    repeat (go_big_quiet_step ((fail)))
                    refine wpQuiet_nil ?_
                    intro _ hw'
                    obtain ⟨⟨w5, hb5⟩, rfl⟩ := hw'
                    have HB5 := Aside0.mk hb5
                    clear hb5
                    go_wp2
                    go_roundg (l2.length - (i + 1))
                    case measure => omega
                    case rel =>
                      refine ⟨i + 1, by omega, by omega, by go_num, ⟨fun j hj => ?_⟩, ⟨bch BW.out HB5.out⟩⟩
                      by_cases e : j = i
                      · subst e; rw [HBAD.out]
                      · exact HA.out j (by omega)
            · have hliz : ¬ (i : Int) < (l2.length : Int) := by omega
              have hlid : decide (i < l2.length) = false := decide_eq_false hli
              have HX := Lib.hid (wfFrom_next hk2 hlt (fun j hj => HA.out j (by omega)) HRK.out)
              have HY := Lib.hid (show 3 ≤ kd + 1 → AllFit l1 l2 from fun _ => allFit_next (fun h => HAF.out h) hk2 (fun j hj => HA.out j (by omega)))
              clear HA HRK HAF
              go_wp2
              go_roundg (5 - (kd + 1))
              case measure => omega
              case rel => exact ⟨kd + 1, by omega, by omega, by omega, by go_num, ⟨HX.out⟩, ⟨HY.out⟩, BW⟩
        · have hltz : ¬ (kd : Int) ≤ 4 := by omega
          have HX := Lib.hid (show wf5 l1 l2 = (R1, R2) by have := HRK.out; rw [show 5 - kd = 0 by omega] at this; exact this)
          have HAF2 := Lib.hid (HAF.out (by omega))
          clear HRK HAF
          go_wp2
          go_loopg [9] l1.length (fun gg s9 wr => ∃ i : Nat, i ≤ l1.length ∧ l1.length - i ≤ gg ∧ s9 = .int .i64 i ∧ Aside0 (∀ j, j < i → (!endsB l1 l2 j) = false) ∧ Aside0 (Below W0.heap.size W0 wr))
          case atStart => exact ⟨0, Nat.zero_le _, by omega, rfl, ⟨fun j hj => absurd hj (Nat.not_lt_zero _)⟩, BW⟩
          case round =>
            clear BW
            obtain ⟨i, hi, hg, rfl, HA, BW⟩ := hrel
            by_cases hli : i < l1.length
            · have hliz : (i : Int) < (l1.length : Int) := by omega
              have f0 := (BW.out.cell (p := ⟨w.heap.size, 0, none⟩) hsz).trans F0.out
              have f1 := (BW.out.cell (p := ⟨w.heap.size, 1, none⟩) hsz).trans F1.out
              have f2 := (BW.out.cell (p := ⟨w.heap.size, 2, none⟩) hsz).trans F2.out
              have HC := Lib.hid (ballcockref09_Ends.calls a0 A1 c1 l1 A2 c2 l2 (i : Int) (l1.length : Int) (endsB l1 l2 i) wr (Kd.C_below G1.out BW.out) hc1 (Kd.C_below G2.out BW.out) hc2 (by
                unfold ballcockref09_Ends.f endsB
                rw [if_pos ⟨by omega, by omega, h16, by omega, by omega, HAF2.out.inAll⟩]; rfl))
              cases hq : endsB l1 l2 i with
              | true =>
                rw [hq] at HC
                go_wp2_with (go_at_call 55; refine HC.out.mono ?_; rintro e w5 ⟨rfl, hb5⟩; have HB5 := Aside0.mk hb5; clear hb5)
                go_roundg (l1.length - (i + 1))
                case measure => omega
                case rel =>
                  refine ⟨i + 1, by omega, by omega, by go_num, ⟨fun j hj => ?_⟩, ⟨bch BW.out HB5.out⟩⟩
                  by_cases e : j = i
                  · subst e; rw [hq]; rfl
                  · exact HA.out j (by omega)
              | false =>
                rw [hq] at HC
                go_wp2_with (go_at_call 55; refine HC.out.mono ?_; rintro e w5 ⟨rfl, hb5⟩; have HB5 := Aside0.mk hb5; clear hb5)
                go_ret2
                refine ⟨?_, bch hbw (bch BW.out HB5.out)⟩
                obtain ⟨rfl, rfl⟩ := wf5_hit hli (by rw [hq]; rfl) HA.out HX.out
                rfl
            · have hliz : ¬ (i : Int) < (l1.length : Int) := by omega
              go_wp2
              go_ret2
              refine ⟨?_, bch hbw BW.out⟩
              obtain ⟨rfl, rfl⟩ := wf5_miss (fun j hj => HA.out j (by omega)) HX.out
              rfl

set_option maxHeartbeats 1000000 in
theorem refWrong_calls (a0 : ByteArray) (A1 : Option Addr) (c1 : Nat) (l1 : List S62) (A2 : Option Addr) (c2 : Nat) (l2 : List S39) (w : World)
    (hr1 : Kd.C k62 w A1 l1.length l1) (hc1 : l1.length ≤ c1) (hr2 : Kd.C k39 w A2 l2.length l2) (hc2 : l2.length ≤ c2) (hf : Fits l1 l2) :
    Calls Try.prog 15 #[.agg #[.string a0, .slice A1 l1.length c1, .slice A2 l2.length c2]] w fun e w' => e = .returned (.tuple #[.int .i64 (wrongF l1 l2).1, .int .i64 (wrongF l1 l2).2]) ∧ Below w.heap.size w w' := by
  have hb := (Below.refl w.heap.size w).alloc (Nat.le_refl _) (.cells #[.string a0, .slice A1 l1.length c1, .slice A2 l2.length c2] 25)
  by_cases h1 : l1.length < 1
  · have hw := Lib.hid (show wrongF l1 l2 = (1, 0) by unfold wrongF; rw [if_pos (.inl h1)])
    rw [hw.out]
    have h1' : decide (l1.length < 1) = true := decide_eq_true h1
    clear hr1 hr2 hf
    go_enter Try.func15, Try.ntmps15
    go_wp2
    go_ret2
    exact ⟨rfl, hb⟩
  · by_cases h2 : 16 < l1.length
    · have hw := Lib.hid (show wrongF l1 l2 = (1, 0) by unfold wrongF; rw [if_pos (.inr h2)])
      rw [hw.out]
      have h1' : decide (l1.length < 1) = false := decide_eq_false h1
      have h2' : decide (16 < l1.length) = true := decide_eq_true h2
      clear hr1 hr2 hf
      go_enter Try.func15, Try.ntmps15
      go_wp2
      go_ret2
      exact ⟨rfl, hb⟩
    · have hw : wrongF l1 l2 = wf1 l1 l2 := by unfold wrongF; rw [if_neg (by omega)]
      rw [hw]
      exact refWrong_walk a0 A1 c1 l1 A2 c2 l2 _ _ w hr1 hc1 hr2 hc2 hf (by omega) (by omega) rfl
end Go.Proofs.Ytkgcfgoaabkcpaa.Pa

