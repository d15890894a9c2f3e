import Derived.Test.YtkgcfgoaabkcpaaG3
namespace Go.Proofs.Ytkgcfgoaabkcpaa.Pa
open Go.RowKit Go.Proofs.YtkgcfgoaabkcpaaW.PrintWords Go.Proofs.YtkgcfgoaabkcpaaW.PrintLast Go.Proofs.YtkgcfgoaabkcpaaW.PrintMore
set_option linter.unusedVariables false
set_option linter.unusedSimpArgs false

/-! ### Plain: each comes to an end -/
def nxO (l2 : List S39) (S : Nat) (op : ByteArray) : List ByteArray → Nat → Nat
  | [], n => n
  | x :: xs, n => nxO l2 S op xs (n ||| stepM S op x l2 0)
def nxK (l2 : List S39) (S : Nat) : List ByteArray → Nat → Nat
  | [], n => n
  | x :: xs, n => nxK l2 S xs (nxO l2 S x (outcM x l2 []) n)
def rndS (l2 : List S39) (S : Nat) : Nat := nxK l2 S (opsM l2 []) S
def itS (l2 : List S39) : Nat → Nat → Nat
  | 0, S => S
  | i + 1, S => rndS l2 (itS l2 i S)

theorem nxO_bit (l2 : List S39) (S : Nat) (op : ByteArray) (j : Nat) : ∀ (xs : List ByteArray) (n : Nat), (nxO l2 S op xs n).testBit j = true ↔ (n.testBit j = true ∨ ∃ x ∈ xs, (stepM S op x l2 0).testBit j = true)
  | [], n => by simp [nxO]
  | x :: xs, n => by
    rw [nxO, nxO_bit l2 S op j xs, Nat.testBit_or, Bool.or_eq_true]
    simp only [List.mem_cons, exists_eq_or_imp, or_assoc]
theorem nxK_bit (l2 : List S39) (S : Nat) (j : Nat) : ∀ (xs : List ByteArray) (n : Nat), (nxK l2 S xs n).testBit j = true ↔ (n.testBit j = true ∨ ∃ op ∈ xs, ∃ x ∈ outcM op l2 [], (stepM S op x l2 0).testBit j = true)
  | [], n => by simp [nxK]
  | x :: xs, n => by
    rw [nxK, nxK_bit l2 S j xs, nxO_bit]
    simp only [List.mem_cons, exists_eq_or_imp, or_assoc]
theorem addS_sub {l : List ByteArray} {s x : ByteArray} (h : x ∈ l) : x ∈ addS l s := by
  unfold addS; split
  · exact h
  · exact List.mem_append_left _ h
theorem addS_has (l : List ByteArray) (s : ByteArray) : ∃ x ∈ addS l s, x.toList = s.toList := by
  unfold addS; split
  · rename_i h
    unfold hasS at h
    rw [List.any_eq_true] at h
    obtain ⟨x, hx, h1⟩ := h
    exact ⟨x, hx, (ba_eq.1 h1).symm⟩
  · exact ⟨s, by simp, rfl⟩
theorem outcO_sub : ∀ (os : List S42) (a : List ByteArray) (x : ByteArray), x ∈ a → x ∈ outcO os a
  | [], a, x, h => h
  | o :: os, a, x, h => outcO_sub os _ x (addS_sub h)
theorem outcO_has : ∀ (os : List S42) (a : List ByteArray) (o : S42), o ∈ os → ∃ x ∈ outcO os a, x.toList = o.f0.toList
  | o :: os, a, o', h => by
    rcases List.mem_cons.1 h with rfl | h
    · obtain ⟨x, hx, h1⟩ := addS_has a o'.f0
      exact ⟨x, outcO_sub os _ x hx, h1⟩
    · exact outcO_has os _ o' h
theorem outcM_sub (op : ByteArray) : ∀ (ms : List S39) (a : List ByteArray) (x : ByteArray), x ∈ a → x ∈ outcM op ms a
  | [], a, x, h => h
  | m :: ms, a, x, h => by
    rw [outcM]
    refine outcM_sub op ms _ x ?_
    split
    · exact outcO_sub _ _ _ h
    · exact h
theorem outcM_has (op : ByteArray) : ∀ (ms : List S39) (a : List ByteArray) (m : S39), m ∈ ms → m.f0.toList = op.toList → ∀ o ∈ m.f2, ∃ x ∈ outcM op ms a, x.toList = o.f0.toList
  | m :: ms, a, m', h, hop, o, ho => by
    rw [outcM]
    rcases List.mem_cons.1 h with rfl | h
    · rw [if_pos (ba_eq.2 hop)]
      obtain ⟨x, hx, h1⟩ := outcO_has m'.f2 a o ho
      exact ⟨x, outcM_sub op ms _ x hx, h1⟩
    · exact outcM_has op ms _ m' h hop o ho
theorem opsM_sub : ∀ (ms : List S39) (a : List ByteArray) (x : ByteArray), x ∈ a → x ∈ opsM ms a
  | [], a, x, h => h
  | m :: ms, a, x, h => opsM_sub ms _ x (addS_sub h)
theorem opsM_has : ∀ (ms : List S39) (a : List ByteArray) (m : S39), m ∈ ms → ∃ x ∈ opsM ms a, x.toList = m.f0.toList
  | m :: ms, a, m', h => by
    rw [opsM]
    rcases List.mem_cons.1 h with rfl | h
    · obtain ⟨x, hx, h1⟩ := addS_has a m'.f0
      exact ⟨x, opsM_sub ms _ x hx, h1⟩
    · exact opsM_has ms _ m' h
theorem rndS_bit (l2 : List S39) (S j : Nat) : (rndS l2 S).testBit j = true ↔ (S.testBit j = true ∨ ∃ m ∈ l2, S.testBit m.f1.toNat = true ∧ ∃ o ∈ m.f2, o.f1.toNat = j) := by
  unfold rndS
  rw [nxK_bit]
  constructor
  · rintro (h | ⟨op, _, x, _, h⟩)
    · exact .inl h
    · rw [stepM_bit] at h
      rcases h with h | ⟨m, hm, _, h2, o, ho, _, h4⟩
      · simp at h
      · exact .inr ⟨m, hm, h2, o, ho, h4⟩
  · rintro (h | ⟨m, hm, h2, o, ho, h4⟩)
    · exact .inl h
    · obtain ⟨op, hop, e1⟩ := opsM_has l2 [] m hm
      obtain ⟨x, hx, e2⟩ := outcM_has op l2 [] m hm e1.symm o ho
      refine .inr ⟨op, hop, x, hx, ?_⟩
      rw [stepM_bit]
      exact .inr ⟨m, hm, e1.symm, h2, o, ho, e2.symm, h4⟩
theorem nxO_lt {l2 : List S39} (hin : In16 l2) (S : Nat) (op : ByteArray) : ∀ (xs : List ByteArray) (n : Nat), n < 2 ^ 32 → nxO l2 S op xs n < 2 ^ 32
  | [], n, h => h
  | x :: xs, n, h => nxO_lt hin S op xs _ (Nat.or_lt_two_pow h (stepM_lt32x hin _ _ _))
theorem nxK_lt {l2 : List S39} (hin : In16 l2) (S : Nat) : ∀ (xs : List ByteArray) (n : Nat), n < 2 ^ 32 → nxK l2 S xs n < 2 ^ 32
  | [], n, h => h
  | x :: xs, n, h => nxK_lt hin S xs _ (nxO_lt hin S x _ n h)
theorem itS_lt {l2 : List S39} (hin : In16 l2) (S : Nat) (h : S < 2 ^ 32) : ∀ i, itS l2 i S < 2 ^ 32
  | 0 => h
  | i + 1 => nxK_lt hin _ _ _ (itS_lt hin S h i)
theorem itS_mono (l2 : List S39) (S j : Nat) (i : Nat) (h : (itS l2 i S).testBit j = true) : ∀ d, (itS l2 (i + d) S).testBit j = true
  | 0 => h
  | d + 1 => by rw [← Nat.add_assoc, itS, rndS_bit]; exact .inl (itS_mono l2 S j i h d)
theorem itS_reach {l1 : List S62} {l2 : List S39} (hin : InAll l1 l2) (S : Nat) : ∀ (q i j : Nat), j < l1.length → (itS l2 i S).testBit j = true → reachN l1 l2 q j = true → ∃ j', j' < l1.length ∧ (rd_T62 l1 (j' : Nat)).f1 = true ∧ (itS l2 (i + q) S).testBit j' = true
  | 0, i, j, hj, h, hr => ⟨j, hj, hr, h⟩
  | q + 1, i, j, hj, h, hr => by
    rw [reachN, Bool.or_eq_true] at hr
    rcases hr with hr | hr
    · obtain ⟨j', h0, h1, h2⟩ := itS_reach hin S q i j hj h hr
      exact ⟨j', h0, h1, by have := itS_mono l2 S j' (i + q) h2 1; rwa [Nat.add_assoc] at this⟩
    · rw [List.any_eq_true] at hr
      obtain ⟨m, hm, hr⟩ := hr
      rw [Bool.and_eq_true, List.any_eq_true] at hr
      obtain ⟨h1, o, ho, h2⟩ := hr
      have h3 := hin m hm o ho
      have h4 : (itS l2 (i + 1) S).testBit o.f1.toNat = true := by
        rw [itS, rndS_bit]
        exact .inr ⟨m, hm, by rw [show m.f1.toNat = j by have := eq_of_beq h1; omega]; exact h, o, ho, rfl⟩
      obtain ⟨j', e0, e1, e2⟩ := itS_reach hin S q (i + 1) o.f1.toNat (by omega) h4 h2
      exact ⟨j', e0, e1, by rwa [show i + 1 + q = i + (q + 1) by omega] at e2⟩
theorem Right.ends_in {l1 : List S62} {l2 : List S39} (h : Right l1 l2) (p : Nat) (hp : p < l1.length) : ∃ i, i ≤ l1.length ∧ (itS l2 i (2 ^ p)) &&& finS l1 l1.length ≠ 0 := by
  obtain ⟨q, hq⟩ := h.ends p hp
  obtain ⟨j, hj, h1, h2⟩ := itS_reach h.fit.inAll (2 ^ p) l1.length 0 p hp (by rw [itS, Nat.testBit_two_pow]; simp) (reach_n l1 l2 h.fit.inAll q p hp hq)
  refine ⟨l1.length, Nat.le_refl _, fun h0 => ?_⟩
  have : ((itS l2 l1.length (2 ^ p)) &&& finS l1 l1.length).testBit j = true := by
    rw [Nat.zero_add] at h2
    rw [Nat.testBit_and, h2, finS_bit, h1]; simp [hj]
  rw [h0] at this; simp at this
theorem Right.enabled_fin {l1 : List S62} {l2 : List S39} (h : Right l1 l2) (op : ByteArray) : ofM (fun _ => true) op l2 0 &&& finS l1 l1.length = 0 := by
  refine Nat.eq_of_testBit_eq fun j => ?_
  rw [Nat.testBit_and, Nat.zero_testBit]
  cases hj : (ofM (fun _ => true) op l2 0).testBit j with
  | false => rfl
  | true =>
    rw [ofM_bit] at hj
    rcases hj with hj | ⟨m, hm, _, _, h2⟩
    · simp at hj
    · have h3 := h.fin_not hm
      have h4 := h.from_lt hm
      rw [finS_bit]
      rw [show (m.f1 : Int) = (j : Nat) by omega] at h3
      rw [h3]; simp

set_option maxRecDepth 4000 in
set_option maxHeartbeats 16000000 in
theorem AutoEnds_walk (a0 : ByteArray) (A1 : Option Addr) (c1 : Nat) (l1 : List S62) (A2 : Option Addr) (c2 : Nat) (l2 : List S39) (a : Nat) (w : World)
    (hr1 : Kd.C k62 w A1 l1.length l1) (hc1 : l1.length ≤ c1) (hr2 : Kd.C k39 w A2 l2.length l2) (hc2 : l2.length ≤ c2) (hz : SzP l1 l2) (ha : a < 256) :
    Calls Try.prog 6 #[.agg #[.string a0, .slice A1 l1.length c1, .slice A2 l2.length c2], .int .u8 a] w fun e w' => e = .returned (.bool true) ∧ Below w.heap.size w w' := by
  obtain ⟨W0, hW0⟩ : ∃ W0, W0 = w.alloc (.cells #[.string a0, .slice A1 l1.length c1, .slice A2 l2.length c2] 25) := ⟨_, rfl⟩
  have hbw : Below w.heap.size w W0 := by rw [hW0]; exact (Below.refl w.heap.size w).alloc (Nat.le_refl _) _
  have hsz : w.heap.size < W0.heap.size := by rw [hW0]; simp
  have F0 := Lib.hid (show W0.cell? ⟨w.heap.size, 0, none⟩ = some (.string a0) by rw [hW0, World.cell?_alloc_at _ _ _ _ rfl]; rfl)
  have F1 := Lib.hid (show W0.cell? ⟨w.heap.size, 1, none⟩ = some (.slice A1 l1.length c1) by rw [hW0, World.cell?_alloc_at _ _ _ _ rfl]; rfl)
  have F2 := Lib.hid (show W0.cell? ⟨w.heap.size, 2, none⟩ = some (.slice A2 l2.length c2) by rw [hW0, World.cell?_alloc_at _ _ _ _ rfl]; rfl)
  have G1 := Lib.hid (Kd.C_below hr1 hbw)
  have G2 := Lib.hid (Kd.C_below hr2 hbw)
  have HZ := Lib.hid hz
  obtain ⟨bs, ks, hks, hfits⟩ := small_f a0 l1 l2 hz
  have HKS := Lib.hid hks; have HFITS := Lib.hid hfits
  clear hr1 hr2 hz hks hfits
  go_enter Try.func6, Try.ntmps6
  go_wp2_with fail
  rw [← hW0]
  refine (awake_calls W0).mono ?_
  rintro e w1 ⟨rfl, hb1⟩
  have f0 := (hb1.cell (p := ⟨w.heap.size, 0, none⟩) hsz).trans F0.out
  have f1 := (hb1.cell (p := ⟨w.heap.size, 1, none⟩) hsz).trans F1.out
  have f2 := (hb1.cell (p := ⟨w.heap.size, 2, none⟩) hsz).trans F2.out
  have HB1 := Aside0.mk hb1
  clear hb1 hW0
  go_wp2_with fail
  refine (ballcockref09_Small.calls ks a0 A1 c1 l1 A2 c2 l2 bs w1 (Kd.C_below G1.out HB1.out) hc1 (Kd.C_below G2.out HB1.out) hc2 HKS.out).mono ?_
  rintro e w2 ⟨rfl, hb2⟩
  have HB2 := Aside0.mk (bch HB1.out hb2)
  clear hb2 f0 f1 f2 HB1
  cases bs with
  | false =>
    go_wp2_with fail
    refine (awake_calls w2).mono ?_
    rintro e w3 ⟨rfl, hb3⟩
    have HB3 := Aside0.mk (bch HB2.out hb3)
    clear hb3
    go_wp2
    go_ret
    exact ⟨rfl, bch hbw HB3.out⟩
  | true =>
    have hf80 := HFITS.out rfl
    have HFt := Lib.hid (show Fits l1 l2 from ⟨by omega, by omega, fun m hm => by have := hf80.2.2 m hm; omega⟩)
    clear hf80 HFITS
    have f0 := (HB2.out.cell (p := ⟨w.heap.size, 0, none⟩) hsz).trans F0.out
    have f1 := (HB2.out.cell (p := ⟨w.heap.size, 1, none⟩) hsz).trans F1.out
    have f2 := (HB2.out.cell (p := ⟨w.heap.size, 2, none⟩) hsz).trans F2.out
    obtain ⟨kw, hkw⟩ := wrong_f a0 l1 l2 HFt.out
    have HKW := Lib.hid hkw; clear hkw
    obtain ⟨R1, hR1⟩ : ∃ R1, R1 = (wrongF l1 l2).1 := ⟨_, rfl⟩
    obtain ⟨R2, hR2⟩ : ∃ R2, R2 = (wrongF l1 l2).2 := ⟨_, rfl⟩
    have HKW2 := Lib.hid (show auto_Wrong.f kw a0 l1 l2 = some (R1, R2) by rw [hR1, hR2]; exact HKW.out)
    have HR1 := Lib.hid hR1; have HR2 := Lib.hid hR2
    clear hR1 hR2
    by_cases h0 : R1 = 0
    · subst h0
      have HRT := Lib.hid (right_of HR1.out.symm)
      have HIN := Lib.hid HRT.out.in16
      go_wp2_with fail
      refine (New_yes kw a0 A1 c1 l1 A2 c2 l2 R2 w2 (Kd.C_below G1.out HB2.out) hc1 (Kd.C_below G2.out HB2.out) hc2 HKW2.out HFt.out).mono ?_
      rintro e w3 ⟨g, rfl, hat, _, hb3⟩
      have HB3 := Aside0.mk (bch HB2.out hb3)
      have HAT0 := Aside0.mk hat
      clear hb3 f0 f1 f2 HB2 hat
      have f0 := (HB3.out.cell (p := ⟨w.heap.size, 0, none⟩) hsz).trans F0.out
      have f1 := (HB3.out.cell (p := ⟨w.heap.size, 1, none⟩) hsz).trans F1.out
      have f2 := (HB3.out.cell (p := ⟨w.heap.size, 2, none⟩) hsz).trans F2.out
      have HC15 := refWrong_calls a0 A1 c1 l1 A2 c2 l2 w3 (Kd.C_below G1.out HB3.out) hc1 (Kd.C_below G2.out HB3.out) hc2 HFt.out
      rw [← HR1.out, ← HR2.out] at HC15
      go_wp2_with fail
      refine HC15.mono ?_
      rintro e w4 ⟨rfl, hb4⟩
      have HB4 := Aside0.mk (bch HB3.out hb4)
      have HAT := Aside0.mk (AutoAt.below HAT0.out hb4)
      clear hb4 f0 f1 f2 HC15 HAT0
      have hsz4 : w.heap.size < w4.heap.size := by have := HB4.out.size; omega
      have P0 := Aside0.mk ((HB4.out.cell (p := ⟨w.heap.size, 0, none⟩) hsz).trans F0.out)
      have P1 := Aside0.mk ((HB4.out.cell (p := ⟨w.heap.size, 1, none⟩) hsz).trans F1.out)
      have P2 := Aside0.mk ((HB4.out.cell (p := ⟨w.heap.size, 2, none⟩) hsz).trans F2.out)
      have K1 := Aside0.mk (Kd.C_below G1.out HB4.out)
      have K2 := Aside0.mk (Kd.C_below G2.out HB4.out)
      have HBW := Aside0.mk (bch hbw HB4.out)
      clear HB3 F0 F1 F2 G1 G2 HZ HKS HKW HKW2 HR1 HR2 hbw HB4
      have hl1 := Kd.C_max K1.out
      have hl2 := Kd.C_max K2.out
      have HAZ := Lib.hid ha
      have h1l := HRT.out.pos
      have h16 := HRT.out.few
      have f1 := P1.out
      obtain ⟨p, hp⟩ : ∃ p, p = a % l1.length := ⟨_, rfl⟩
      have hpl : p < l1.length := by rw [hp]; exact Nat.mod_lt _ (by omega)
      have hrem : (a : Int) % (l1.length : Int) = (p : Int) := by rw [hp]; exact (Int.natCast_emod _ _).symm
      have HEND := Lib.hid (HRT.out.ends_in p hpl)
      obtain ⟨fi, hfi⟩ : ∃ fi, fi = finS l1 l1.length := ⟨_, rfl⟩
      have hfl : fi < 2 ^ 32 := by rw [hfi]; exact finS_lt l1 _ (by omega)
      have HFC := Lib.hid (fun (W : World) (hb : Below w4.heap.size w4 W) => (by rw [hfi]; exact Finals_calls g a0 l1 l2 W (AutoAt.below HAT.out hb) (by omega) : Calls Try.prog 21 #[.pointer (some ⟨g, 0, none⟩)] W fun e w' => e = .returned (.int .u32 (fi : Nat)) ∧ Below W.heap.size W w'))
      have HEN := Lib.hid (fun (op : ByteArray) => show (Go.bits .and .u32 ((ofM (fun _ => true) op l2 0 : Nat) : Int) (fi : Int) != 0) = false by rw [and32 _ _ (ofM_lt HIN.out _ _) hfl, hfi, HRT.out.enabled_fin]; rfl)
      rw [← hfi] at HEND
      obtain ⟨J, hJ, hj1, hj2, hj3, hj4⟩ := shl_facts (p : Int) (by omega) (by omega)
      have hJ2 : J = ((2 ^ p : Nat) : Int) := by rw [hJ]; exact shl1 p (by omega)
      have HJ2 := Lib.hid hJ2
      have hppos : (0 : Int) ≤ (p : Int) := by omega
      have HIT := Lib.hid (itS_lt HIN.out (2 ^ p) (Nat.pow_lt_pow_right (by decide) (by omega)))
      clear hp hJ hJ2 hfi
      go_wp2_with fail
      refine (Ops_calls g a0 l1 l2 _ HAT.out HFt.out.2.1).mono ?_
      rintro e w5 ⟨vo, rfl, ⟨Ao, co, rfl, hco, hCo⟩, hb5⟩
      have BW5 := Aside0.mk hb5
      obtain ⟨ops, hops⟩ : ∃ ops, ops = opsM l2 [] := ⟨_, rfl⟩
      rw [← hops] at hco hCo ⊢
      have HCO := Aside0.mk hCo
      have HOPS := Lib.hid hops
      have hom := Kd.C_max hCo
      clear hb5 hops hCo f1
      have HPW := Lib.hid (show ((2 : Int) ^ p % 4294967296) = ((2 ^ p : Nat) : Int) by
        have h2 : (2 : Nat) ^ p < 2 ^ 16 := Nat.pow_lt_pow_right (by decide) (by omega)
        have h3 : ((2 ^ p : Nat) : Int) = (2 : Int) ^ p := by simp
        rw [← h3]
        obtain ⟨y, hy⟩ : ∃ y, y = 2 ^ p := ⟨_, rfl⟩
        rw [← hy] at h2 ⊢
        omega)
      clear hrem hj1 hj2 hj3 hj4
      go_wp2_with fail
      go_loopg [9, 11] (l1.length + 1) (fun gm s9 s11 wm => ∃ (i S : Nat), i ≤ l1.length + 1 ∧ l1.length + 1 - i ≤ gm ∧ s11 = .int .i64 i ∧ s9 = .int .u32 (S : Nat) ∧ S < 2 ^ 32 ∧ Aside0 (S = itS l2 i (2 ^ p)) ∧ Aside0 (∀ q, q < i → itS l2 q (2 ^ p) &&& fi = 0) ∧ Aside0 (Below w5.heap.size w5 wm))
      case atStart => exact ⟨0, 2 ^ p, by omega, by omega, rfl, by rw [HPW.out], HIT.out 0, ⟨rfl⟩, ⟨fun q hq => absurd hq (Nat.not_lt_zero _)⟩, ⟨Below.refl _ _⟩⟩
      case round =>
        obtain ⟨i, S, hi, hgi, rfl, rfl, hSl, HS, HNO, BW⟩ := hrel
        have BW4 := Lib.hid (bch BW5.out BW.out)
        have f1 := (BW4.out.cell (p := ⟨w.heap.size, 1, none⟩) hsz4).trans P1.out
        by_cases hli : i ≤ l1.length
        · have hliz : (i : Int) ≤ (l1.length : Int) := by omega
          have hlid : decide (i ≤ l1.length) = true := decide_eq_true hli
          obtain ⟨wo, rfl⟩ : ∃ wo : World, wo = wr := ⟨_, rfl⟩
          have hand := and32 S fi hSl hfl
          obtain ⟨x, hx⟩ : ∃ x, x = S &&& fi := ⟨_, rfl⟩
          rw [← hx] at hand
          by_cases hx0 : x = 0
          · subst hx0
            have HX := Lib.hid hx
            have hq : (Go.bits .and .u32 (S : Int) (fi : Int) != 0) = false := by rw [hand]; rfl
            clear hand hx
            go_wp2_with fail
            refine (HFC.out _ BW4.out).mono ?_
            rintro e w6 ⟨rfl, hb6⟩
            have BW6 := Aside0.mk (bch BW.out hb6)
            clear hb6 f1
            obtain ⟨T, hT⟩ : ∃ T, T = nxK l2 S ops S := ⟨_, rfl⟩
            have HT0 : Aside0 (nxK l2 S (ops.drop 0) S = T) := ⟨by rw [List.drop_zero]; exact hT.symm⟩
            have HT1 := Lib.hid (show T = itS l2 (i + 1) (2 ^ p) by rw [itS, rndS, ← HOPS.out, ← HS.out]; exact hT)
            clear hT
            go_wp2_with fail
            clear hq
            go_loopg [12, 13] ops.length (fun gk s12 s13 wk => ∃ (k N : Nat), k ≤ ops.length ∧ ops.length - k ≤ gk ∧ s13 = .int .i64 k ∧ s12 = .int .u32 (N : Nat) ∧ N < 2 ^ 32 ∧ Aside0 (nxK l2 S (ops.drop k) N = T) ∧ Aside0 (Below w5.heap.size w5 wk))
            case atStart => exact ⟨0, S, by omega, by omega, rfl, rfl, hSl, HT0, BW6⟩
            case round =>
              clear HT0
              obtain ⟨k, N, hk, hgk, rfl, rfl, hNl, HT, BK⟩ := hrel
              by_cases hlk : k < ops.length
              · have hlkz : (k : Int) < (ops.length : Int) := by omega
                have hlkd : decide (k < ops.length) = true := decide_eq_true hlk
                obtain ⟨wk, rfl⟩ : ∃ wk : World, wk = wr := ⟨_, rfl⟩
                obtain ⟨adk, ek, hk0⟩ := Kd.at_string (Kd.C_below HCO.out BK.out) k (by omega) hlkz
                have hgetk : ops.drop k = rdOf ByteArray.empty ops k :: ops.drop (k + 1) := by unfold rdOf; exact getD_drop hlk
                have HT1' := HT.out
                rw [hgetk] at HT1'
                clear hgetk HT
                generalize rdOf ByteArray.empty ops k = op at hk0 HT1'
                simp only [Int.toNat_natCast] at hk0
                cases ek
                rw [nxK] at HT1'
                have BK4 := Lib.hid (bch BW5.out BK.out)
                go_wp2_with fail
                refine (Outcomes_calls g a0 l1 l2 op _ (AutoAt.below HAT.out BK4.out) HFt.out.2.1 HFt.out.2.2).mono ?_
                rintro e w7 ⟨vo, rfl, ⟨As, cs, rfl, hcs, hCs⟩, hb7⟩
                have BK7 := Aside0.mk (bch BK.out hb7)
                obtain ⟨os, hos⟩ : ∃ os, os = outcM op l2 [] := ⟨_, rfl⟩
                rw [← hos] at hcs hCs HT1' ⊢
                have HCS := Aside0.mk hCs
                have hsm := Kd.C_max hCs
                have HT2 : Aside0 (nxK l2 S (ops.drop (k + 1)) (nxO l2 S op (os.drop 0) N) = T) := ⟨by rw [List.drop_zero]; exact HT1'⟩
                have HK0 := Aside0.mk (pw_cell_below hb7 hk0)
                clear hb7 hos hCs HT1' hk0
                go_wp2_with fail
                go_loopg [12, 15] os.length (fun go s12 s15 wq => ∃ (q N : Nat), q ≤ os.length ∧ os.length - q ≤ go ∧ s15 = .int .i64 q ∧ s12 = .int .u32 (N : Nat) ∧ N < 2 ^ 32 ∧ Aside0 (nxK l2 S (ops.drop (k + 1)) (nxO l2 S op (os.drop q) N) = T) ∧ Aside0 (Below w7.heap.size w7 wq))
                case atStart => exact ⟨0, N, by omega, by omega, rfl, rfl, hNl, HT2, ⟨Below.refl _ _⟩⟩
                case round =>
                  clear HT2 hNl N
                  obtain ⟨q, N, hq, hgq, rfl, rfl, hNl, HT, BQ⟩ := hrel
                  by_cases hlq : q < os.length
                  · have hlqz : (q : Int) < (os.length : Int) := by omega
                    have hlqd : decide (q < os.length) = true := decide_eq_true hlq
                    obtain ⟨wq, rfl⟩ : ∃ wq : World, wq = wr := ⟨_, rfl⟩
                    obtain ⟨adq, eq, hq0⟩ := Kd.at_string (Kd.C_below HCS.out BQ.out) q (by omega) hlqz
                    have hgetq : os.drop q = rdOf ByteArray.empty os q :: os.drop (q + 1) := by unfold rdOf; exact getD_drop hlq
                    have HT1' := HT.out
                    rw [hgetq] at HT1'
                    clear hgetq HT
                    generalize rdOf ByteArray.empty os q = nm at hq0 HT1'
                    simp only [Int.toNat_natCast] at hq0
                    cases eq
                    rw [nxO] at HT1'
                    have hk0 := pw_cell_below BQ.out HK0.out
                    obtain ⟨t, ht⟩ : ∃ t, t = stepM S op nm l2 0 := ⟨_, rfl⟩
                    have htl : t < 2 ^ 32 := by rw [ht]; exact stepM_lt32x HIN.out _ _ _
                    have HC1 := Lib.hid (fun x : At wq => Calls.at_ (by rw [ht]; exact Step_calls g a0 l1 l2 S op nm x.1 (AutoAt.below HAT.out (bch (bch BW5.out (bch BK7.out BQ.out)) x.2)) hSl HIN.out : Calls Try.prog 19 #[.pointer (some ⟨g, 0, none⟩), .int .u32 S, .string op, .string nm] x.1 fun e w' => e = .returned (.int .u32 (t : Nat)) ∧ Below x.1.heap.size x.1 w'))
                    rw [← ht] at HT1'
                    have HT3 := Aside0.mk HT1'
                    have hor := or32 N t hNl htl
                    have HOL := Lib.hid (Nat.or_lt_two_pow hNl htl)
                    obtain ⟨N2, hN2⟩ : ∃ N2, N2 = N ||| t := ⟨_, rfl⟩
                    rw [← hN2] at hor HT3 HOL
                    clear ht HT1' hN2
                    have k0' := fun x : At wq => At.cell hk0 x
                    have q0' := fun x : At wq => At.cell hq0 x
                    go_wp2
                    refine wp_region_at (by kernel_rfl) (by kernel_rfl) ?_
                    repeat (go_big_quiet_step ((go_at_call 19; with_reducible exact HC1.out _)))
                    refine wpQuiet_nil ?_
                    intro w8 hw'
                    obtain ⟨⟨_, hb8⟩, rfl⟩ := hw'
                    have BQ8 := Aside0.mk (bch BQ.out hb8)
                    clear HC1 k0' q0' hb8 hk0 hq0
                    go_wp2
                    go_roundg (os.length - (q + 1))
                    case measure => omega
                    case rel => exact ⟨q + 1, N2, by omega, by omega, by go_num, by first | rfl | rw [hor], HOL.out, HT3, BQ8⟩
                  · have hlqz : ¬ (q : Int) < (os.length : Int) := by omega
                    have hlqd : decide (q < os.length) = false := decide_eq_false hlq
                    have HT2 : Aside0 (nxK l2 S (ops.drop (k + 1)) N = T) := ⟨by
                      have := HT.out; rw [List.drop_of_length_le (by omega : os.length ≤ q)] at this; exact this⟩
                    clear HT
                    have BQ2 := Lib.hid (bch BK7.out BQ.out)
                    have BQ4 := Lib.hid (bch BW5.out BQ2.out)
                    have hk0 := pw_cell_below BQ.out HK0.out
                    have hen := HEN.out op
                    obtain ⟨E, hE⟩ : ∃ E, E = ofM (fun _ => true) op l2 0 := ⟨_, rfl⟩
                    rw [← hE] at hen
                    have HE := Lib.hid hE
                    clear hE
                    go_wp2_with fail
                    refine (Enabled_calls g a0 l1 l2 op _ (AutoAt.below HAT.out BQ4.out) HIN.out).mono ?_
                    rw [← HE.out]
                    rintro e w8 ⟨rfl, hb8⟩
                    have BQ8 := Aside0.mk (bch BQ2.out hb8)
                    clear hb8 hk0
                    go_wp2_with fail
                    refine (HFC.out _ (bch BW5.out BQ8.out)).mono ?_
                    rintro e w9 ⟨rfl, hb9⟩
                    have BQ9 := Aside0.mk (bch BQ8.out hb9)
                    clear hb9
                    go_wp2
                    go_roundg (ops.length - (k + 1))
                    case measure => omega
                    case rel => exact ⟨k + 1, N, by omega, by omega, by go_num, rfl, hNl, HT2, BQ9⟩
              · have hlkz : ¬ (k : Int) < (ops.length : Int) := by omega
                have hlkd : decide (k < ops.length) = false := decide_eq_false hlk
                have HT2 : N = T := by
                  have := HT.out; rw [List.drop_of_length_le (by omega : ops.length ≤ k)] at this; exact this
                subst HT2
                go_wp2
                go_roundg (l1.length + 1 - (i + 1))
                case measure => omega
                case rel => exact ⟨i + 1, N, by omega, by omega, by go_num, rfl, hNl, ⟨HT1.out⟩, ⟨fun q hq => by
                  by_cases e : q = i
                  · subst e; rw [← HS.out]; exact HX.out.symm
                  · exact HNO.out q (by omega)⟩, BK⟩
          · have hq : (Go.bits .and .u32 (S : Int) (fi : Int) != 0) = true := by rw [hand]; exact bne_iff_ne.mpr (by omega)
            clear hand hx
            go_wp2_with fail
            refine (HFC.out _ BW4.out).mono ?_
            rintro e w6 ⟨rfl, hb6⟩
            have BW6 := Aside0.mk (bch BW4.out hb6)
            clear hb6 f1
            go_wp2
            go_ret
            exact ⟨rfl, bch HBW.out BW6.out⟩
        · exact absurd HEND.out (fun ⟨q, hq, h⟩ => h (HNO.out q (by omega)))
    · have h0' : (R1 == 0) = false := beq_eq_false_iff_ne.mpr h0
      have h0n : (R1 != 0) = true := bne_iff_ne.mpr h0
      go_wp2_with fail
      refine (New_no kw a0 A1 c1 l1 A2 c2 l2 R1 R2 w2 (Kd.C_below G1.out HB2.out) hc1 (Kd.C_below G2.out HB2.out) hc2 HKW2.out h0).mono ?_
      rintro e w3 ⟨rfl, hb3⟩
      have HB3 := Aside0.mk (bch HB2.out hb3)
      clear hb3 f0 f1 f2 HB2
      have f0 := (HB3.out.cell (p := ⟨w.heap.size, 0, none⟩) hsz).trans F0.out
      have f1 := (HB3.out.cell (p := ⟨w.heap.size, 1, none⟩) hsz).trans F1.out
      have f2 := (HB3.out.cell (p := ⟨w.heap.size, 2, none⟩) hsz).trans F2.out
      have HC15 := refWrong_calls a0 A1 c1 l1 A2 c2 l2 w3 (Kd.C_below G1.out HB3.out) hc1 (Kd.C_below G2.out HB3.out) hc2 HFt.out
      rw [← HR1.out, ← HR2.out] at HC15
      go_wp2_with fail
      refine HC15.mono ?_
      rintro e w4 ⟨rfl, hb4⟩
      have HB4 := Aside0.mk (bch HB3.out hb4)
      clear hb4 f0 f1 f2 HC15
      go_wp2
      go_ret
      exact ⟨rfl, bch hbw HB4.out⟩

theorem u8_natx {a : Int} (h : (Lit.int .u8 a).wf = true) : ∃ n : Nat, a = (n : Int) ∧ n < 256 := by
  simp [Lit.wf, IntKind.min, IntKind.max, IntKind.signed, IntKind.bits] at h
  exact ⟨a.toNat, by omega, by omega⟩
theorem AutoEnds_row (x : S25) (cs : List Value) (a : Int) (w : World) (hk : k25.K w x cs) (hq : Q25 x) (ha : (Lit.int .u8 a).wf = true) : Calls Try.prog 6 #[.agg cs.toArray, .int .u8 a] w fun e w' => e = .returned (.bool true) ∧ Below w.heap.size w w' := by
  obtain ⟨A1, c1, A2, c2, rfl, h1, h2, h3, h4⟩ := open25 hk
  obtain ⟨a, rfl, ha2⟩ := u8_natx ha
  exact AutoEnds_walk x.f0 A1 c1 x.f1 A2 c2 x.f2 a w h2 h1 h4 h3 hq.sz ha2
end Go.Proofs.Ytkgcfgoaabkcpaa.Pa
