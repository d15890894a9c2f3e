import Derived.Test.YtkgcfgoaabkcpaaG4
import Derived.Test.YtkgcfgoaabkcpaaPa13
import Derived.Test.YtkgcfgoaabkcpaaPa16
namespace Go.Proofs.Ytkgcfgoaabkcpaa.Pa
open Go.RowKit Go.Proofs.YtkgcfgoaabkcpaaW.PrintWords Go.Proofs.YtkgcfgoaabkcpaaW.PrintLast Go.Proofs.YtkgcfgoaabkcpaaW.PrintMore
set_option linter.unusedVariables false
set_option linter.unusedSimpArgs false

/-! ### Outs, State -/
/-- A row of outcomes handed back. -/
def RdO (w : World) (v : Value) (xs : List S42) : Prop := ∃ A c, v = .slice A xs.length c ∧ xs.length ≤ c ∧ Kd.C k42 w A xs.length xs
theorem RdO.below {w w' : World} {v : Value} {xs : List S42} (h : RdO w v xs) (hb : Below w.heap.size w w') : RdO w' v xs := by
  obtain ⟨A, c, h1, h2, h3⟩ := h
  exact ⟨A, c, h1, h2, Kd.C_below h3 hb⟩
theorem own_reads42 {w W : World} {base : Nat} {ok : Nat → Prop} {A : Option Addr} {c : Nat} {l : List S42} (h : (Kd.fixed k42 w).R 42 W base ok (.slice A l.length c) l) : l.length ≤ c ∧ Kd.C k42 W A l.length l := by
  have := Kd.R_reads' (k42_fixed h)
  exact ⟨this.2.1, this.2.2⟩

set_option maxHeartbeats 4000000 in
theorem AOuts_calls (g : Nat) (a0 : ByteArray) (l1 : List S62) (l2 : List S39) (st : Int) (op : ByteArray) (w : World) (h : AutoAt w g a0 l1 l2) (hf : ∀ m ∈ l2, m.f2.length ≤ 1000) :
    Calls Try.prog 31 #[.pointer (some ⟨g, 0, none⟩), .int .i64 st, .string op] w fun e w' => ∃ v, e = .returned v ∧ RdO w' v (outsF st op l2) ∧ Below w.heap.size w w' := by
  obtain ⟨A1, c1, A2, c2, hh, k1, p1, k2, p2⟩ := h
  have f2 : w.cell? ⟨g, 2, none⟩ = some (.slice A2 l2.length c2) := by simp [World.cell?, hh]
  have HP := Lib.hid p2
  have HF := Lib.hid hf
  obtain ⟨R, hR⟩ : ∃ R, R = outsF st op l2 := ⟨_, rfl⟩
  rw [← hR]
  have HA : Aside0 (outsF st op (l2.drop 0) = R) := ⟨by rw [List.drop_zero, hR]⟩
  have hl2 := Kd.C_max p2
  clear hh p1 p2 hR hf
  go_enter Try.func31, Try.ntmps31
  go_wp2
  go_loopg [15] l2.length (fun gm s15 wm => ∃ (m : Nat), m ≤ l2.length ∧ l2.length - m ≤ gm ∧ s15 = .int .i64 m ∧ Aside0 (outsF st op (l2.drop m) = R) ∧ Aside0 (Below w.heap.size w wm))
  case atStart => exact ⟨0, Nat.zero_le _, by omega, rfl, HA, ⟨Below.refl _ _⟩⟩
  case round =>
    clear HA
    obtain ⟨m, hm, hgm, rfl, HA, BW⟩ := hrel
    by_cases hlm : m < l2.length
    · have hlmz : (m : Int) < (l2.length : Int) := by omega
      have hlmd : decide (m < l2.length) = true := decide_eq_true hlm
      obtain ⟨wo, rfl⟩ : ∃ wo : World, wo = wr := ⟨_, rfl⟩
      obtain ⟨adm, Am, cm, em, hm0, hm1, hm2, hmc, hmo⟩ := at_T39 (Kd.C_below HP.out BW.out) m (by omega) hlmz
      have hgetm := drop39 hlm
      have hvl := HF.out _ (rd39_mem hlm)
      have HA1 := HA.out
      rw [hgetm, outsF] at HA1
      clear hgetm HA
      generalize rd_T39 l2 m = mv at hm0 hm1 hm2 hmc hmo HA1 hvl
      obtain ⟨v0, v1, v2⟩ := mv
      simp only at hm0 hm1 hm2 hmc hmo HA1 hvl
      simp only [Int.toNat_natCast] at hm0 hm1 hm2
      cases em
      have hol := Kd.C_max hmo
      have hb0 := (Below.refl wo.heap.size wo).alloc (Nat.le_refl _) (.cells #[.string v0, .int .i64 v1, .slice Am v2.length cm] 39)
      have HB0 := Lib.hid hb0
      have HMO := Lib.hid (Kd.C_below hmo hb0); clear hmo hb0
      by_cases hst : v1 = st
      · subst hst
        have hst' : (v1 == v1) = true := by simp
        cases hop : (v0.toList == op.toList) with
        | true =>
          have HA2 : Aside0 (v2 = R) := ⟨by rw [if_pos ⟨rfl, hop⟩] at HA1; exact HA1⟩
          clear HA1
          go_wp2_with fail
          refine (clone42 Am cm v2 _ _ HMO.out (Below.refl _ _) hmc (by omega)).mono ?_
          rintro e w1 ⟨A', c', rfl, hr', hb'⟩
          have HR' := Aside0.mk (own_reads42 hr')
          have HB' := Aside0.mk hb'
          clear hr' hb'
          go_wp2
          go_ret
          obtain rfl := HA2.out
          exact ⟨_, rfl, ⟨A', c', rfl, HR'.out.1, HR'.out.2⟩, bch BW.out (bch HB0.out HB'.out)⟩
        | false =>
          have HA2 : Aside0 (outsF v1 op (l2.drop (m + 1)) = R) := ⟨by rw [if_neg (by rw [hop]; simp)] at HA1; exact HA1⟩
          clear HA1
          go_wp2
          go_roundg (l2.length - (m + 1))
          case measure => omega
          case rel => exact ⟨m + 1, by omega, by omega, by go_num, HA2, ⟨bch BW.out HB0.out⟩⟩
      · have hst' : (v1 == st) = false := beq_eq_false_iff_ne.mpr hst
        have HA2 : Aside0 (outsF st op (l2.drop (m + 1)) = R) := ⟨by rw [if_neg (fun h => hst h.1)] at HA1; exact HA1⟩
        clear HA1 hst
        go_wp2
        go_roundg (l2.length - (m + 1))
        case measure => omega
        case rel => exact ⟨m + 1, by omega, by omega, by go_num, HA2, ⟨bch BW.out HB0.out⟩⟩
    · have hlmz : ¬ (m : Int) < (l2.length : Int) := by omega
      have hlmd : decide (m < l2.length) = false := decide_eq_false hlm
      have HA1 : [] = R := by
        have := HA.out; rw [List.drop_of_length_le (by omega : l2.length ≤ m)] at this; exact this
      subst HA1
      go_wp2
      go_ret
      exact ⟨_, rfl, ⟨none, 0, rfl, Nat.le_refl _, Kd.C_nil _ _⟩, BW.out⟩

theorem enters68 : ∀ args w, (callFunc 68 args).run Try.prog w = .ok (.enter 68 args) w := enters_of Try.func68 (by kernel_rfl) rfl

set_option maxHeartbeats 1000000 in
theorem named_calls (B : Nat) (nm : ByteArray) (x : S62) (w : World) (hB : B < w.heap.size) (hc : w.cell? ⟨B, 0, none⟩ = some (.string nm)) :
    Calls Try.prog 68 #[.agg #[.string x.f0, .bool x.f1], .pointer (some ⟨B, 0, none⟩)] w fun e w' => e = .returned (.bool (x.f0.toList == nm.toList)) ∧ Below w.heap.size w w' := by
  have hb := (Below.refl w.heap.size w).alloc (Nat.le_refl _) (.cells #[.string x.f0, .bool x.f1] 62)
  have hc' := (hb.cell (p := ⟨B, 0, none⟩) hB).trans hc
  go_enter Try.func68, Try.ntmps68
  go_wp2
  go_ret
  exact ⟨rfl, hb⟩

set_option maxHeartbeats 2000000 in
theorem State_calls (g : Nat) (a0 : ByteArray) (l1 : List S62) (l2 : List S39) (nm : ByteArray) (r : Int) (w : World) (h : AutoAt w g a0 l1 l2) (hr : r = idxP (fun s => s.f0.toList == nm.toList) l1) (hr1 : 0 ≤ r) :
    Calls Try.prog 33 #[.pointer (some ⟨g, 0, none⟩), .string nm] w fun e w' => e = .returned (.tuple #[.int .i64 r, .bool true]) ∧ Below w.heap.size w w' := by
  obtain ⟨A1, c1, A2, c2, hh, k1, p1, k2, p2⟩ := h
  have f1 : w.cell? ⟨g, 1, none⟩ = some (.slice A1 l1.length c1) := by simp [World.cell?, hh]
  have hb := (Below.refl w.heap.size w).alloc (Nat.le_refl _) (.cells #[.string nm] 9)
  have hm := Kd.C_max p1
  have HB := Lib.hid hb
  have HP := Lib.hid (Kd.C_below p1 hb)
  have HR := Lib.hid hr
  have hlt : g < w.heap.size := blk_lt hh
  clear hh p1 p2 hb hr
  go_enter Try.func33, Try.ntmps33
  go_wp2_with fail
  refine (indexFunc62 (fun s => s.f0.toList == nm.toList) 68 #[.pointer (some ⟨w.heap.size, 0, none⟩)] enters68 A1 c1 l1 _ HP.out k1 (fun W x cs _ hW hx => ?_) hm).mono ?_
  · obtain rfl := k62_open hx
    exact named_calls w.heap.size nm x W (by have := hW.size; simp at this; omega) ((hW.cell (p := ⟨w.heap.size, 0, none⟩) (by simp)).trans (by simp))
  · rw [← HR.out]
    rintro e w' ⟨rfl, hb'⟩
    have HB' := Aside0.mk hb'; clear hb'
    have hr2 : decide (0 ≤ r) = true := decide_eq_true hr1
    go_wp2
    go_ret2
    exact ⟨congrArg (fun z => Ending.returned (.tuple #[.int .i64 z, .bool true])) (show max r 0 = r by omega), bch HB.out HB'.out⟩
set_option maxHeartbeats 2000000 in
theorem State_none (g : Nat) (a0 : ByteArray) (l1 : List S62) (l2 : List S39) (nm : ByteArray) (w : World) (h : AutoAt w g a0 l1 l2) (hr : -1 = idxP (fun s => s.f0.toList == nm.toList) l1) :
    Calls Try.prog 33 #[.pointer (some ⟨g, 0, none⟩), .string nm] w fun e w' => e = .returned (.tuple #[.int .i64 0, .bool false]) ∧ Below w.heap.size w w' := by
  obtain ⟨A1, c1, A2, c2, hh, k1, p1, k2, p2⟩ := h
  have f1 : w.cell? ⟨g, 1, none⟩ = some (.slice A1 l1.length c1) := by simp [World.cell?, hh]
  have hb := (Below.refl w.heap.size w).alloc (Nat.le_refl _) (.cells #[.string nm] 9)
  have hm := Kd.C_max p1
  have HB := Lib.hid hb
  have HP := Lib.hid (Kd.C_below p1 hb)
  have HR := Lib.hid hr
  have hlt : g < w.heap.size := blk_lt hh
  clear hh p1 p2 hb hr
  go_enter Try.func33, Try.ntmps33
  go_wp2_with fail
  refine (indexFunc62 (fun s => s.f0.toList == nm.toList) 68 #[.pointer (some ⟨w.heap.size, 0, none⟩)] enters68 A1 c1 l1 _ HP.out k1 (fun W x cs _ hW hx => ?_) hm).mono ?_
  · obtain rfl := k62_open hx
    exact named_calls w.heap.size nm x W (by have := hW.size; simp at this; omega) ((hW.cell (p := ⟨w.heap.size, 0, none⟩) (by simp)).trans (by simp))
  · rw [← HR.out]
    rintro e w' ⟨rfl, hb'⟩
    have HB' := Aside0.mk hb'; clear hb'
    go_wp2
    go_ret2
    exact ⟨rfl, bch HB.out HB'.out⟩

/-! ### The reference's Set -/
def setB (which : Int) (op : ByteArray) (l1 : List S62) (l2 : List S39) (i : Nat) : Bool :=
  if which = 0 then (rd_T62 l1 i).f1 else if which = 1 then decide (0 < (outsF i op l2).length) else decide (0 < (outsF i op l2).length) && (outsF i op l2).all fun o => o.f1 == (i : Int)
/-- A set of states, of those from one on. -/
def SetV (b : Nat → Bool) (n i s : Nat) : Prop := ∀ k, s.testBit k = (decide (i + k < n) && b (i + k))
theorem setV_lt {b : Nat → Bool} {n i s : Nat} (h : SetV b n i s) (hn : n ≤ 16) : s < 65536 :=
  Nat.lt_pow_two_of_testBit (n := 16) s (fun j hj => by rw [h j]; simp; omega)
theorem setV_step {b : Nat → Bool} {n i s c : Nat} (h : SetV b n (i + 1) s) (hi : i < n) (hc : c = if b i then 1 else 0) : SetV b n i (s * 2 + c) := by
  have hc1 : c ≤ 1 := by rw [hc]; split <;> omega
  intro k
  cases k with
  | zero =>
    rw [Nat.testBit_zero, Nat.add_zero]
    rw [show (s * 2 + c) % 2 = c by omega, hc]
    cases b i <;> simp [hi]
  | succ k =>
    rw [Nat.testBit_succ, show (s * 2 + c) / 2 = s by omega, h k, show i + 1 + k = i + (k + 1) by omega]
theorem setV_1 {b : Nat → Bool} {n i s : Nat} (h : SetV b n (i + 1) s) (hi : i < n) (hb : b i = true) : SetV b n i (s * 2 + 1) := setV_step h hi (by rw [hb]; rfl)
theorem setV_0 {b : Nat → Bool} {n i s : Nat} (h : SetV b n (i + 1) s) (hi : i < n) (hb : b i = false) : SetV b n i (s * 2 + 0) := setV_step h hi (by rw [hb]; rfl)
theorem setB_0 (op : ByteArray) (l1 : List S62) (l2 : List S39) (i : Nat) : setB 0 op l1 l2 i = (rd_T62 l1 i).f1 := by simp [setB]
theorem setB_1 (op : ByteArray) (l1 : List S62) (l2 : List S39) (i : Nat) : setB 1 op l1 l2 i = decide (0 < (outsF i op l2).length) := by unfold setB; rw [if_neg (by decide), if_pos rfl]
theorem setB_2 (op : ByteArray) (l1 : List S62) (l2 : List S39) (i : Nat) : setB 2 op l1 l2 i = (decide (0 < (outsF i op l2).length) && (outsF i op l2).all fun o => o.f1 == (i : Int)) := by unfold setB; rw [if_neg (by decide), if_neg (by decide)]

set_option maxHeartbeats 8000000 in
theorem Set_calls (a0 : ByteArray) (A1 : Option Addr) (c1 : Nat) (l1 : List S62) (A2 : Option Addr) (c2 : Nat) (l2 : List S39) (which : Int) (op : ByteArray) (w : World) (hr1 : Kd.C k62 w A1 l1.length l1) (hr2 : Kd.C k39 w A2 l2.length l2) (hn : l1.length ≤ 16) (hw : which = 0 ∨ which = 1 ∨ which = 2) :
    Calls Try.prog 28 #[.agg #[.string a0, .slice A1 l1.length c1, .slice A2 l2.length c2], .int .i64 which, .string op] w fun e w' => ∃ s : Nat, e = .returned (.int .u32 s) ∧ SetV (setB which op l1 l2) l1.length 0 s ∧ Below w.heap.size w w' := by
  obtain ⟨W0, hW0⟩ : ∃ W0, W0 = w.alloc (.cells #[.string a0, .slice A1 l1.length c1, .slice A2 l2.length c2] 25) := ⟨_, rfl⟩
  have hbw : Below w.heap.size w W0 := by rw [hW0]; exact (Below.refl w.heap.size w).alloc (Nat.le_refl _) _
  have hsz : w.heap.size < W0.heap.size := by rw [hW0]; simp
  have F0 := Lib.hid (show W0.cell? ⟨w.heap.size, 0, none⟩ = some (.string a0) by rw [hW0, World.cell?_alloc_at _ _ _ _ rfl]; rfl)
  have F1 := Lib.hid (show W0.cell? ⟨w.heap.size, 1, none⟩ = some (.slice A1 l1.length c1) by rw [hW0, World.cell?_alloc_at _ _ _ _ rfl]; rfl)
  have F2 := Lib.hid (show W0.cell? ⟨w.heap.size, 2, none⟩ = some (.slice A2 l2.length c2) by rw [hW0, World.cell?_alloc_at _ _ _ _ rfl]; rfl)
  have G1 := Lib.hid (Kd.C_below hr1 hbw)
  have G2 := Lib.hid (Kd.C_below hr2 hbw)
  have HW := Lib.hid hw
  clear hr1 hr2 hw
  go_enter Try.func28, Try.ntmps28
  go_wp2
  rw [← hW0]
  clear hW0
  go_loopg [7, 8] l1.length (fun gm s7 s8 wm => ∃ (q s : Nat) (z : Int), q ≤ l1.length ∧ q ≤ gm ∧ z = (q : Int) - 1 ∧ s8 = .int .i64 z ∧ s7 = .int .u32 (s : Nat) ∧ Aside0 (SetV (setB which op l1 l2) l1.length q s) ∧ Aside0 (Below W0.heap.size W0 wm))
  case atStart => exact ⟨l1.length, 0, _, Nat.le_refl _, Nat.le_refl _, rfl, rfl, rfl, ⟨fun k => by rw [Nat.zero_testBit]; simp [show ¬ (l1.length + k < l1.length) by omega]⟩, ⟨Below.refl _ _⟩⟩
  case round =>
    obtain ⟨q, s, z, hq, hg, hz, rfl, rfl, HS, BW⟩ := hrel
    have hsl := setV_lt HS.out hn
    have f0 := (BW.out.cell (p := ⟨w.heap.size, 0, none⟩) hsz).trans F0.out
    have f1 := (BW.out.cell (p := ⟨w.heap.size, 1, none⟩) hsz).trans F1.out
    have f2 := (BW.out.cell (p := ⟨w.heap.size, 2, none⟩) hsz).trans F2.out
    cases q with
    | zero =>
      obtain rfl : z = -1 := by omega
      clear hz
      go_wp2
      go_ret
      exact ⟨s, rfl, HS.out, bch hbw BW.out⟩
    | succ i =>
      obtain rfl : z = (i : Int) := by omega
      clear hz
      obtain ⟨wo, rfl⟩ : ∃ wo : World, wo = wr := ⟨_, rfl⟩
      have hil : (i : Int) < (l1.length : Int) := by omega
      go_wp2_with fail
      refine (Outs_calls a0 A1 l1.length c1 A2 c2 l2 (i : Int) op _ (Kd.C_below G2.out BW.out)).mono ?_
      rintro e w1 ⟨Ao, co, rfl, hco, hCo, hb1⟩
      have BW1 := Aside0.mk (bch BW.out hb1)
      obtain ⟨os, hos⟩ : ∃ os, os = outsF (i : Int) op l2 := ⟨_, rfl⟩
      rw [← hos] at hco hCo ⊢
      have HOS := Lib.hid hos
      have HCO := Aside0.mk hCo
      have hom := Kd.C_max hCo
      clear hb1 hCo hos f0 f1 f2
      obtain ⟨d, hd⟩ : ∃ d, d = decide (0 < os.length) := ⟨_, rfl⟩
      have hdl : decide (0 < os.length) = d := hd.symm
      have HD := Lib.hid hd
      clear hd
      obtain ⟨T, hT⟩ : ∃ T, T = (d && os.all fun o => o.f1 == (i : Int)) := ⟨_, rfl⟩
      have HT0 : Aside0 ((d && (os.drop 0).all fun o => o.f1 == (i : Int)) = T) := ⟨by rw [List.drop_zero]; exact hT.symm⟩
      have HT := Lib.hid hT
      clear hT
      go_wp2_with fail
      go_loopg [10, 11] os.length (fun go s10 s11 wq => ∃ (k : Nat) (b : Bool), k ≤ os.length ∧ os.length - k ≤ go ∧ s11 = .int .i64 k ∧ s10 = .bool b ∧ Aside0 ((b && (os.drop k).all fun o => o.f1 == (i : Int)) = T) ∧ Aside0 (Below W0.heap.size W0 wq) ∧ Aside0 (Below w1.heap.size w1 wq))
      case atStart => exact ⟨0, d, Nat.zero_le _, by omega, rfl, rfl, HT0, BW1, ⟨Below.refl _ _⟩⟩
      case round =>
        clear HT0
        obtain ⟨k, b, hk, hgk, rfl, rfl, HA, BQ, BQ1⟩ := hrel
        by_cases hlk : k < os.length
        · have hlkz : (k : Int) < (os.length : Int) := by omega
          have hlkd : decide (k < os.length) = true := decide_eq_true hlk
          obtain ⟨wp, rfl⟩ : ∃ wp : World, wp = wr := ⟨_, rfl⟩
          obtain ⟨ado, eo, ho0, ho1⟩ := at_T42 (Kd.C_below HCO.out BQ1.out) k (by omega) hlkz
          have hgeto := drop42 hlk
          have HA1 := HA.out
          rw [hgeto, List.all_cons] at HA1
          clear hgeto HA
          generalize rd_T42 os k = ov at ho0 ho1 HA1
          obtain ⟨o0, o1⟩ := ov
          simp only at ho0 ho1 HA1
          simp only [Int.toNat_natCast] at ho0 ho1
          cases eo
          cases b with
          | false =>
            have HA2 : Aside0 ((false && (os.drop (k + 1)).all fun o => o.f1 == (i : Int)) = T) := ⟨by rw [← HA1]; rfl⟩
            clear HA1
            go_wp2
            go_roundg (os.length - (k + 1))
            case measure => omega
            case rel => exact ⟨k + 1, false, by omega, by omega, by go_num, rfl, HA2, BQ, BQ1⟩
          | true =>
            obtain ⟨y, hy⟩ : ∃ y, y = (o1 == (i : Int)) := ⟨_, rfl⟩
            rw [← hy, Bool.true_and] at HA1
            have HA2 := Aside0.mk HA1
            have hy' : (o1 == (i : Int)) = y := hy.symm
            clear HA1 hy
            go_wp2
            go_roundg (os.length - (k + 1))
            case measure => omega
            case rel => exact ⟨k + 1, y, by omega, by omega, by go_num, rfl, HA2, BQ, BQ1⟩
        · have hlkz : ¬ (k : Int) < (os.length : Int) := by omega
          have hlkd : decide (k < os.length) = false := decide_eq_false hlk
          have hbT : b = T := by
            have := HA.out; rw [List.drop_of_length_le (by omega : os.length ≤ k)] at this; simpa using this
          subst hbT
          have f1 := (BQ.out.cell (p := ⟨w.heap.size, 1, none⟩) hsz).trans F1.out
          obtain ⟨ad1, e1, hs0, hs1⟩ := at_T62 (Kd.C_below G1.out BQ.out) i (by omega) hil
          have HF := Lib.hid (rfl : (rd_T62 l1 i).f1 = (rd_T62 l1 i).f1)
          obtain ⟨fin, hfin⟩ : ∃ fin, fin = (rd_T62 l1 i).f1 := ⟨_, rfl⟩
          rw [← hfin] at hs1
          have HFIN := Lib.hid hfin
          simp only [Int.toNat_natCast] at hs1
          cases e1
          clear hs0 HA HF hfin
          have hstep1 := Lib.hid (setV_1 HS.out (by omega : i < l1.length))
          have hstep0 := Lib.hid (setV_0 HS.out (by omega : i < l1.length))
          rcases HW.out with rfl | rfl | rfl
          · cases fin with
            | true =>
              go_wp2
              go_roundg i
              case measure => omega
              case rel => exact ⟨i, s * 2 + 1, _, by omega, Nat.le_refl _, rfl, rfl, by go_num, ⟨hstep1.out (by rw [setB_0, ← HFIN.out])⟩, BQ⟩
            | false =>
              go_wp2
              go_roundg i
              case measure => omega
              case rel => exact ⟨i, s * 2 + 0, _, by omega, Nat.le_refl _, rfl, rfl, by go_num, ⟨hstep0.out (by rw [setB_0, ← HFIN.out])⟩, BQ⟩
          · cases d with
            | true =>
              go_wp2
              go_roundg i
              case measure => omega
              case rel => exact ⟨i, s * 2 + 1, _, by omega, Nat.le_refl _, rfl, rfl, by go_num, ⟨hstep1.out (by rw [setB_1, ← HOS.out, ← HD.out])⟩, BQ⟩
            | false =>
              go_wp2
              go_roundg i
              case measure => omega
              case rel => exact ⟨i, s * 2 + 0, _, by omega, Nat.le_refl _, rfl, rfl, by go_num, ⟨hstep0.out (by rw [setB_1, ← HOS.out, ← HD.out])⟩, BQ⟩
          · cases b with
            | true =>
              go_wp2
              go_roundg i
              case measure => omega
              case rel => exact ⟨i, s * 2 + 1, _, by omega, Nat.le_refl _, rfl, rfl, by go_num, ⟨hstep1.out (by rw [setB_2, ← HOS.out, ← HD.out, ← HT.out])⟩, BQ⟩
            | false =>
              go_wp2
              go_roundg i
              case measure => omega
              case rel => exact ⟨i, s * 2 + 0, _, by omega, Nat.le_refl _, rfl, rfl, by go_num, ⟨hstep0.out (by rw [setB_2, ← HOS.out, ← HD.out, ← HT.out])⟩, BQ⟩
end Go.Proofs.Ytkgcfgoaabkcpaa.Pa
