import Derived.Test.YtkgcfgoaabkcpaaE1d
namespace Go.Proofs.Ytkgcfgoaabkcpaa.Pa
open Go.RowKit Go.Proofs.YtkgcfgoaabkcpaaW.PrintWords Go.Proofs.YtkgcfgoaabkcpaaW.PrintLast Go.Proofs.YtkgcfgoaabkcpaaW.PrintMore
set_option linter.unusedVariables false
set_option linter.unusedSimpArgs false

def sameMv (m0 : ByteArray) (m1 : Int) (x : S39) : Bool := (x.f0.toList == m0.toList) && (x.f1 == m1)
theorem enters89 : ∀ args w, (callFunc 89 args).run Try.prog w = .ok (.enter 89 args) w := enters_of Try.func89 (by kernel_rfl) rfl
theorem enters91 : ∀ args w, (callFunc 91 args).run Try.prog w = .ok (.enter 91 args) w := enters_of Try.func91 (by kernel_rfl) rfl

set_option maxHeartbeats 1000000 in
theorem same_calls (B : Nat) (m0 : ByteArray) (m1 : Int) (x : S39) (A : Option Addr) (n c : Nat) (w : World) (hB : B < w.heap.size) (h0 : w.cell? ⟨B, 0, none⟩ = some (.string m0)) (h1 : w.cell? ⟨B, 1, none⟩ = some (.int .i64 m1)) :
    Calls Try.prog 89 #[.agg #[.string x.f0, .int .i64 x.f1, .slice A n c], .pointer (some ⟨B, 0, none⟩)] w fun e w' => e = .returned (.bool (sameMv m0 m1 x)) ∧ Below w.heap.size w w' := by
  have hb := (Below.refl w.heap.size w).alloc (Nat.le_refl _) (bxM x.f0 x.f1 A n c)
  cases h : (x.f0.toList == m0.toList) with
  | true =>
    have hfin := Lib.hid (show sameMv m0 m1 x = (x.f1 == m1) by unfold sameMv; rw [h, Bool.true_and])
    go_enter Try.func89, Try.ntmps89
    go_wp2
    go_ret
    exact ⟨ret_b hfin.out.symm, hb⟩
  | false =>
    have hfin := Lib.hid (show sameMv m0 m1 x = false by unfold sameMv; rw [h, Bool.false_and])
    go_enter Try.func89, Try.ntmps89
    go_wp2
    go_ret
    exact ⟨ret_b hfin.out.symm, hb⟩

set_option maxHeartbeats 1000000 in
theorem outname (B : Nat) (A1 : Option Addr) (c1 : Nat) (l1 : List S42) (i : Nat) (w : World) (hc : w.cell? ⟨B, 2, none⟩ = some (.slice A1 l1.length c1)) (hr : Kd.C k42 w A1 l1.length l1) (hi : i < l1.length) :
    Calls Try.prog 91 #[.int .i64 i, .pointer (some ⟨B, 0, none⟩)] w fun e w' => e = .returned (.string (rd_T42 l1 i).f0) ∧ Below w.heap.size w w' := by
  have hltz : (i : Int) < (l1.length : Int) := by omega
  obtain ⟨ad, e0, h0, h1⟩ := at_T42 hr i (by omega) hltz
  simp only [Int.toNat_natCast] at h0 h1
  clear hr
  cases e0
  go_enter Try.func91, Try.ntmps91
  go_wp2
  go_ret
  exact ⟨rfl, Below.refl _ _⟩


/-- What once finds of a move and its place. -/
def onceB (l2 : List S39) (i : Nat) (m0 : ByteArray) (m1 : Int) (m2 : List S42) : Bool := !((l2.take i).any (sameMv m0 m1)) && decide (twiceF m2.length (fun k => (rd_T42 m2 k).f0) < 0)

set_option maxHeartbeats 4000000 in
theorem once_calls' (a0_0 : ByteArray) (A0_1 : Option Addr) (c0_1 : Nat) (n : Nat) (A0_2 : Option Addr) (c0_2 : Nat) (l2 : List S39) (i : Nat) (w : World)
    (hr : Kd.C k39 w A0_2 l2.length l2) (hc : l2.length ≤ c0_2) (hi : i < l2.length) :
    Calls Try.prog 51 #[.agg #[.string a0_0, .slice A0_1 n c0_1, .slice A0_2 l2.length c0_2], .int .i64 i] w fun e w' => e = .returned (.bool (onceB l2 i (rd_T39 l2 i).f0 (rd_T39 l2 i).f1 (rd_T39 l2 i).f2)) ∧ Below w.heap.size w w' := by
  have hltz : (i : Int) < (l2.length : Int) := by omega
  obtain ⟨ad, A2, c2, e0, h0, h1, h2, hlen, hg⟩ := at_T39 (Kd.C_alloc hr (.cells #[.string a0_0, .slice A0_1 n c0_1, .slice A0_2 l2.length c0_2] 25)) i (by omega) hltz
  have hbig := Kd.C_max hr
  have hbig2 := Kd.C_max hg
  have HT := Lib.hid (Kd.C_take (m := i) hr (by omega))
  have htl : (l2.take i).length = i := by rw [List.length_take]; omega
  have HTL := Lib.hid htl; clear htl
  have HG := Lib.hid hg
  clear hr hg
  generalize rd_T39 l2 i = m at *
  obtain ⟨m0, m1, m2⟩ := m
  simp only at *
  simp only [Int.toNat_natCast] at h0 h1 h2
  cases e0
  have hb0 := (Below.refl w.heap.size w).alloc (Nat.le_refl _) (bxP a0_0 A0_1 n c0_1 (some ad) l2.length c0_2)
  have hb := hb0.alloc (by simp) (bxM m0 m1 A2 m2.length c2)
  have F0 := Lib.hid (show ((w.alloc (bxP a0_0 A0_1 n c0_1 (some ad) l2.length c0_2)).alloc (bxM m0 m1 A2 m2.length c2)).cell? ⟨w.heap.size + 1, 0, none⟩ = some (.string m0) by rw [World.cell?_alloc_at _ _ _ _ (by simp)]; rfl)
  have F1 := Lib.hid (show ((w.alloc (bxP a0_0 A0_1 n c0_1 (some ad) l2.length c0_2)).alloc (bxM m0 m1 A2 m2.length c2)).cell? ⟨w.heap.size + 1, 1, none⟩ = some (.int .i64 m1) by rw [World.cell?_alloc_at _ _ _ _ (by simp)]; rfl)
  have F2 := Lib.hid (show ((w.alloc (bxP a0_0 A0_1 n c0_1 (some ad) l2.length c0_2)).alloc (bxM m0 m1 A2 m2.length c2)).cell? ⟨w.heap.size + 1, 2, none⟩ = some (.slice A2 m2.length c2) by rw [World.cell?_alloc_at _ _ _ _ (by simp)]; rfl)
  have F4 := Lib.hid (show ((w.alloc (bxP a0_0 A0_1 n c0_1 (some ad) l2.length c0_2)).alloc (bxM m0 m1 A2 m2.length c2)).heap.size = w.heap.size + 2 by simp)
  have hcall := containsFunc39 (sameMv m0 m1) 89 #[.pointer (some ⟨w.heap.size + 1, 0, none⟩)] enters89 (some ad) c0_2 (l2.take i) _ (Kd.C_alloc (Kd.C_alloc HT.out (bxP a0_0 A0_1 n c0_1 (some ad) l2.length c0_2)) (bxM m0 m1 A2 m2.length c2)) (by rw [HTL.out]; omega) (fun W x cs hx hW hK => by
    obtain ⟨Ax, cx, rfl, _, _⟩ := k39_open hK
    exact same_calls (w.heap.size + 1) m0 m1 x Ax _ cx W (by have := hW.size; rw [F4.out] at this; omega) ((hW.cell (p := ⟨w.heap.size + 1, 0, none⟩) (by rw [F4.out]; simp)).trans F0.out) ((hW.cell (p := ⟨w.heap.size + 1, 1, none⟩) (by rw [F4.out]; simp)).trans F1.out)) (by rw [HTL.out]; omega)
  rw [HTL.out] at hcall
  have hmf : ∀ (fn : Fn) (first cap : Array Value) (w : World), (Instr.makeFunc fn first cap).run Try.prog w = .ok (.func fn first cap) w := fun _ _ _ _ => rfl
  cases ha : (l2.take i).any (sameMv m0 m1) with
  | true =>
    rw [ha] at hcall
    have hfin := Lib.hid (show onceB l2 i m0 m1 m2 = false by unfold onceB; rw [ha]; rfl)
    clear ha F0 F1 F2
    go_enter Try.func51, Try.ntmps51
    go_wp2_with fail
    refine hcall.mono ?_
    rintro e w1 ⟨rfl, hb1⟩
    go_wp2_with fail
    go_ret
    exact ⟨ret_b hfin.out.symm, bch hb hb1⟩
  | false =>
    rw [ha] at hcall
    have hfin := Lib.hid (show onceB l2 i m0 m1 m2 = decide (twiceF m2.length (fun k => (rd_T42 m2 k).f0) < 0) by unfold onceB; rw [ha]; rfl)
    clear ha F0 F1
    go_enter Try.func51, Try.ntmps51
    go_wp2_with fail
    refine hcall.mono ?_
    rintro e w1 ⟨rfl, hb1⟩
    have g2 := (hb1.cell (p := ⟨w.heap.size + 1, 2, none⟩) (by rw [F4.out]; simp)).trans F2.out
    have hs1 : w.heap.size + 2 ≤ w1.heap.size := by have := hb1.size; rw [F4.out] at this; exact this
    have hbw := bch hb hb1
    have HGw := Lib.hid (Kd.C_below (Kd.C_alloc HG.out (bxM m0 m1 A2 m2.length c2)) hb1)
    go_wp2_with fail
    refine (twice_calls m2.length (fun k => (rd_T42 m2 k).f0) 91 #[.pointer (some ⟨w.heap.size + 1, 0, none⟩)] enters91 w1 hbig2 (fun W k hk hW => ?_)).mono ?_
    · exact outname (w.heap.size + 1) A2 c2 m2 k W ((hW.cell (p := ⟨w.heap.size + 1, 2, none⟩) (by simp; omega)).trans g2) (Kd.C_below HGw.out hW) hk
    · rintro e w2 ⟨rfl, hb2⟩
      go_wp2_with fail
      go_ret
      exact ⟨ret_b hfin.out.symm, bch hbw hb2⟩

/-! The three as the print's callers take them. -/
def auto_states.f (a0_0 : ByteArray) (l0_1 : List S62) (l0_2 : List S39) : Option Int := some (if l0_1.length < 1 ∨ 16 < l0_1.length then 0 else twiceF l0_1.length fun i => (rd_T62 l0_1 i).f0)
theorem auto_states.calls (a0_0 : ByteArray) (A0_1 : Option Addr) (c0_1 : Nat) (l0_1 : List (S62)) (A0_2 : Option Addr) (c0_2 : Nat) (l0_2 : List (S39)) (r : Int) (w : World) (hr0_1 : Kd.C k62 w A0_1 l0_1.length l0_1) (hc0_1 : l0_1.length ≤ c0_1) (hr0_2 : Kd.C k39 w A0_2 l0_2.length l0_2) (hc0_2 : l0_2.length ≤ c0_2) (h : auto_states.f a0_0 l0_1 l0_2 = some r) :
    Calls Try.prog 49 #[.agg #[.string a0_0, .slice A0_1 l0_1.length c0_1, .slice A0_2 l0_2.length c0_2]] w fun e w' => e = .returned (.int .i64 r) ∧ Below w.heap.size w w' := by
  obtain rfl := Option.some.inj h
  by_cases h1 : l0_1.length < 1
  · rw [if_pos (.inl h1)]
    have h1' : decide (l0_1.length < 1) = true := decide_eq_true h1
    have hb := (Below.refl w.heap.size w).alloc (Nat.le_refl _) (bxP a0_0 A0_1 l0_1.length c0_1 A0_2 l0_2.length c0_2)
    clear hr0_1 hr0_2 h
    go_enter Try.func49, Try.ntmps49
    go_wp2_with fail
    go_ret
    exact ⟨rfl, hb⟩
  · by_cases h2 : 16 < l0_1.length
    · rw [if_pos (.inr h2)]
      have h1' : decide (l0_1.length < 1) = false := decide_eq_false h1
      have h2' : decide (16 < l0_1.length) = true := decide_eq_true h2
      have hb := (Below.refl w.heap.size w).alloc (Nat.le_refl _) (bxP a0_0 A0_1 l0_1.length c0_1 A0_2 l0_2.length c0_2)
      clear hr0_1 hr0_2 h
      go_enter Try.func49, Try.ntmps49
      go_wp2_with fail
      go_ret
      exact ⟨rfl, hb⟩
    · rw [if_neg (by omega)]
      exact states_calls' a0_0 A0_1 c0_1 l0_1 A0_2 c0_2 l0_2 w hr0_1 (by omega) (by omega)

def auto_move.f (a0_0 : ByteArray) (l0_1 : List S62) (l0_2 : List S39) (a1_0 : ByteArray) (a1_1 : Int) (l1_2 : List S42) : Option Bool := some (inB l0_1.length a1_1 && decide (0 < l1_2.length) && !(l1_2.any fun o => !inB l0_1.length o.f1))
theorem auto_move.calls (a0_0 : ByteArray) (A0_1 : Option Addr) (c0_1 : Nat) (l0_1 : List (S62)) (A0_2 : Option Addr) (c0_2 : Nat) (l0_2 : List (S39)) (a1_0 : ByteArray) (a1_1 : Int) (A1_2 : Option Addr) (c1_2 : Nat) (l1_2 : List S42) (r : Bool) (w : World) (hr0_1 : Kd.C k62 w A0_1 l0_1.length l0_1) (hc0_1 : l0_1.length ≤ c0_1) (hr0_2 : Kd.C k39 w A0_2 l0_2.length l0_2) (hc0_2 : l0_2.length ≤ c0_2) (hr1_2 : Kd.C k42 w A1_2 l1_2.length l1_2) (hc1_2 : l1_2.length ≤ c1_2) (h : auto_move.f a0_0 l0_1 l0_2 a1_0 a1_1 l1_2 = some r) :
    Calls Try.prog 50 #[.agg #[.string a0_0, .slice A0_1 l0_1.length c0_1, .slice A0_2 l0_2.length c0_2], .agg #[.string a1_0, .int .i64 a1_1, .slice A1_2 l1_2.length c1_2]] w fun e w' => e = .returned (.bool r) ∧ Below w.heap.size w w' := by
  obtain rfl := Option.some.inj h
  exact move_calls' a0_0 A0_1 c0_1 l0_1.length A0_2 c0_2 l0_2.length a1_0 a1_1 A1_2 c1_2 l1_2 w hr1_2 hc1_2

def auto_once.f (a0_0 : ByteArray) (l0_1 : List S62) (l0_2 : List S39) (a1 : Int) : Option Bool := if 0 ≤ a1 ∧ a1 < l0_2.length then some (onceB l0_2 a1.toNat (rd_T39 l0_2 a1).f0 (rd_T39 l0_2 a1).f1 (rd_T39 l0_2 a1).f2) else none
theorem auto_once.calls (a0_0 : ByteArray) (A0_1 : Option Addr) (c0_1 : Nat) (l0_1 : List (S62)) (A0_2 : Option Addr) (c0_2 : Nat) (l0_2 : List (S39)) (a1 : Int) (r : Bool) (w : World) (hr0_1 : Kd.C k62 w A0_1 l0_1.length l0_1) (hc0_1 : l0_1.length ≤ c0_1) (hr0_2 : Kd.C k39 w A0_2 l0_2.length l0_2) (hc0_2 : l0_2.length ≤ c0_2) (h : auto_once.f a0_0 l0_1 l0_2 a1 = some r) :
    Calls Try.prog 51 #[.agg #[.string a0_0, .slice A0_1 l0_1.length c0_1, .slice A0_2 l0_2.length c0_2], .int .i64 a1] w fun e w' => e = .returned (.bool r) ∧ Below w.heap.size w w' := by
  unfold auto_once.f at h
  by_cases h1 : 0 ≤ a1 ∧ a1 < l0_2.length
  · rw [if_pos h1] at h
    obtain rfl := Option.some.inj h
    obtain ⟨i, rfl⟩ := Int.eq_ofNat_of_zero_le h1.1
    rw [Int.toNat_natCast]
    exact once_calls' a0_0 A0_1 c0_1 l0_1.length A0_2 c0_2 l0_2 i w hr0_2 hc0_2 (by omega)
  · rw [if_neg h1] at h
    cases h
end Go.Proofs.Ytkgcfgoaabkcpaa.Pa
