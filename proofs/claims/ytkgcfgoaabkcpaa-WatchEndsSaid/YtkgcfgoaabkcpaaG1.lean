import Derived.Test.YtkgcfgoaabkcpaaB8
import Derived.Test.YtkgcfgoaabkcpaaPa11
namespace Go.Proofs.Ytkgcfgoaabkcpaa.Pa
open Go.RowKit Go.Proofs.YtkgcfgoaabkcpaaW.PrintWords Go.Proofs.YtkgcfgoaabkcpaaW.PrintLast Go.Proofs.YtkgcfgoaabkcpaaW.PrintMore
set_option linter.unusedVariables false
set_option linter.unusedSimpArgs false

/-! ### of, Keeps, Enabled -/
def ofM (p : S39 → Bool) (op : ByteArray) : List S39 → Nat → Nat
  | [], s => s
  | m :: ms, s => ofM p op ms (if (m.f0.toList == op.toList) = true ∧ p m = true then s ||| 2 ^ m.f1.toNat else s)

set_option maxHeartbeats 4000000 in
theorem of_calls (q : Nat) (lb : Array Value) (eg : ∀ args w, (callFunc q args).run Try.prog w = .ok (.enter q args) w) (p : S39 → Bool) (g : Nat) (a0 : ByteArray) (l1 : List S62) (l2 : List S39) (op : ByteArray) (w : World) (h : AutoAt w g a0 l1 l2) (hin : In16 l2) (hp : Tells q lb k39 w l2 p) :
    Calls Try.prog 59 #[.pointer (some ⟨g, 0, none⟩), .string op, .func (.func q) #[] lb] w fun e w' => e = .returned (.int .u32 (ofM p op l2 0 : Nat)) ∧ Below w.heap.size w w' := by
  obtain ⟨A1, c1, A2, c2, hh, k1, p1, k2, p2⟩ := h
  have f2 : w.cell? ⟨g, 2, none⟩ = some (.slice A2 l2.length c2) := by simp [World.cell?, hh]
  have HP := Lib.hid p2
  have HIN := Lib.hid hin
  have HT := Lib.hid hp
  obtain ⟨R, hR⟩ : ∃ R, R = ofM p op l2 0 := ⟨_, rfl⟩
  rw [← hR]
  have HA : Aside0 (ofM p op (l2.drop 0) 0 = R) := ⟨by rw [List.drop_zero, hR]⟩
  have hl2 := Kd.C_max p2
  clear hh p1 p2 hin hR hp
  go_enter Try.func59, Try.ntmps59
  go_wp2
  go_loopg [7, 16] l2.length (fun gm s9 s20 wm => ∃ (m s : Nat), m ≤ l2.length ∧ l2.length - m ≤ gm ∧ s20 = .int .i64 m ∧ s9 = .int .u32 s ∧ s < 2 ^ 32 ∧ Aside0 (ofM p op (l2.drop m) s = R) ∧ Aside0 (Below w.heap.size w wm))
  case atStart => exact ⟨0, 0, Nat.zero_le _, by omega, rfl, rfl, by decide, HA, ⟨Below.refl _ _⟩⟩
  case round =>
    clear HA
    obtain ⟨m, s, hm, hgm, rfl, rfl, hs, HA, BW⟩ := hrel
    by_cases hlm : m < l2.length
    · have hlmz : (m : Int) < (l2.length : Int) := by omega
      have hlmd : decide (m < l2.length) = true := decide_eq_true hlm
      obtain ⟨wo, rfl⟩ : ∃ wo : World, wo = wr := ⟨_, rfl⟩
      obtain ⟨adm, Am, cm, em, hm0, hm1, hm2, hmc, hmo⟩ := at_T39 (Kd.C_below HP.out BW.out) m (by omega) hlmz
      have hgetm := drop39 hlm
      have HMEM := Lib.hid (rd39_mem hlm)
      obtain ⟨hv, _⟩ := HIN.out _ HMEM.out
      have HA1 := HA.out
      rw [hgetm] at HA1
      clear hgetm HA
      generalize rd_T39 l2 m = mv at hm0 hm1 hm2 hmc hmo hv HA1 HMEM
      obtain ⟨v0, v1, v2⟩ := mv
      simp only at hm0 hm1 hm2 hmc hmo hv HA1 HMEM
      simp only [Int.toNat_natCast] at hm0 hm1 hm2
      cases em
      obtain ⟨hv0, hv1⟩ := hv
      have hv0d : decide (0 ≤ v1) = true := decide_eq_true hv0
      have hol := Kd.C_max hmo
      have hb0 := (Below.refl wo.heap.size wo).alloc (Nat.le_refl _) (.cells #[.string v0, .int .i64 v1, .slice Am v2.length cm] 39)
      have hK : k39.K (wo.alloc (.cells #[.string v0, .int .i64 v1, .slice Am v2.length cm] 39)) ⟨v0, v1, v2⟩ [.string v0, .int .i64 v1, .slice Am v2.length cm] := k39_mk _ ⟨v0, v1, v2⟩ hmc (Kd.C_below hmo hb0)
      have hcall := Lib.hid (HT.out _ ⟨v0, v1, v2⟩ _ HMEM.out (bch BW.out hb0) hK)
      have HB0 := Aside0.mk hb0
      rw [ofM] at HA1
      simp only at HA1
      clear hb0 hK hmo
      cases hop : (v0.toList == op.toList) with
      | false =>
        have HA2 : Aside0 (ofM p op (l2.drop (m + 1)) s = R) := ⟨by
          rw [if_neg (by rw [hop]; simp)] at HA1; exact HA1⟩
        clear HA1
        go_wp2
        go_roundg (l2.length - (m + 1))
        case measure => omega
        case rel => exact ⟨m + 1, s, by omega, by omega, by go_num, rfl, hs, HA2, ⟨bch BW.out HB0.out⟩⟩
      | true =>
        cases hpm : p ⟨v0, v1, v2⟩ with
        | false =>
          rw [hpm] at hcall
          have HA2 : Aside0 (ofM p op (l2.drop (m + 1)) s = R) := ⟨by
            rw [if_neg (by rw [hpm]; simp)] at HA1; exact HA1⟩
          clear HA1 hpm
          go_wp2_with (go_at_fn q; refine hcall.out.mono ?_; rintro e w' ⟨rfl, hb'⟩; have HB' := Aside0.mk hb'; clear hb')
          go_roundg (l2.length - (m + 1))
          case measure => omega
          case rel => exact ⟨m + 1, s, by omega, by omega, by go_num, rfl, hs, HA2, ⟨bch BW.out (bch HB0.out HB'.out)⟩⟩
        | true =>
          rw [hpm] at hcall
          have HA2 : Aside0 (ofM p op (l2.drop (m + 1)) (s ||| 2 ^ v1.toNat) = R) := ⟨by
            rw [if_pos ⟨hop, hpm⟩] at HA1; exact HA1⟩
          obtain ⟨K, hK, hk1, hk2, hk3, hk4⟩ := shl_facts v1 hv0 hv1
          have hor := or_eq s v1 hs hv0 hv1
          rw [← hK] at hor
          have hv0t := eq_true hv0
          have HOR := Aside0.mk hor
          have hlt := Aside0.mk (or_lt s v1.toNat hs (by omega))
          clear HA1 hpm hK hor hv0 hv1
          go_wp2_with fail
          refine hcall.out.mono ?_
          rintro e w' ⟨rfl, hb'⟩
          have g1 := (hb'.cell (p := ⟨wo.heap.size, 1, none⟩) (by simp)).trans (World.cell?_alloc_at _ _ _ _ rfl)
          have HB' := Aside0.mk hb'
          clear hb'
          go_wp2
          go_roundg (l2.length - (m + 1))
          case measure => omega
          case rel => exact ⟨m + 1, s ||| 2 ^ v1.toNat, by omega, by omega, by go_num, by rw [HOR.out], hlt.out, HA2, ⟨bch BW.out (bch HB0.out HB'.out)⟩⟩
    · have hlmz : ¬ (m : Int) < (l2.length : Int) := by omega
      have hlmd : decide (m < l2.length) = false := decide_eq_false hlm
      have HA1 : s = R := by
        have := HA.out; rw [List.drop_of_length_le (by omega : l2.length ≤ m)] at this; exact this
      subst HA1
      go_wp2
      go_ret
      exact ⟨rfl, BW.out⟩

theorem enters60 : ∀ args w, (callFunc 60 args).run Try.prog w = .ok (.enter 60 args) w := enters_of Try.func60 (by kernel_rfl) rfl
theorem enters62 : ∀ args w, (callFunc 62 args).run Try.prog w = .ok (.enter 62 args) w := enters_of Try.func62 (by kernel_rfl) rfl
theorem enters63 : ∀ args w, (callFunc 63 args).run Try.prog w = .ok (.enter 63 args) w := enters_of Try.func63 (by kernel_rfl) rfl

set_option maxHeartbeats 1000000 in
theorem leaves_calls (B : Nat) (v1 : Int) (x : S42) (w : World) (hB : B < w.heap.size) (hc : w.cell? ⟨B, 1, none⟩ = some (.int .i64 v1)) :
    Calls Try.prog 62 #[.agg #[.string x.f0, .int .i64 x.f1], .pointer (some ⟨B, 0, none⟩)] w fun e w' => e = .returned (.bool (x.f1 != v1)) ∧ Below w.heap.size w w' := by
  have hb := (Below.refl w.heap.size w).alloc (Nat.le_refl _) (.cells #[.string x.f0, .int .i64 x.f1] 42)
  have hc' := (hb.cell (p := ⟨B, 1, none⟩) hB).trans hc
  go_enter Try.func62, Try.ntmps62
  go_wp2
  go_ret
  exact ⟨rfl, hb⟩

def stays (m : S39) : Bool := !(m.f2.any fun o => o.f1 != m.f1)

set_option maxHeartbeats 1000000 in
theorem keeps1_calls (m0 : ByteArray) (m1 : Int) (A : Option Addr) (c : Nat) (m2 : List S42) (w : World) (hc : m2.length ≤ c) (hr : Kd.C k42 w A m2.length m2) :
    Calls Try.prog 60 #[.agg #[.string m0, .int .i64 m1, .slice A m2.length c]] w fun e w' => e = .returned (.bool (stays ⟨m0, m1, m2⟩)) ∧ Below w.heap.size w w' := by
  have hb := (Below.refl w.heap.size w).alloc (Nat.le_refl _) (.cells #[.string m0, .int .i64 m1, .slice A m2.length c] 39)
  have HR := Lib.hid (Kd.C_below hr hb)
  have hm := Kd.C_max hr
  have HB := Aside0.mk hb
  clear hr hb
  go_enter Try.func60, Try.ntmps60
  go_wp2_with fail
  refine (containsFunc42 (fun o => o.f1 != m1) 62 #[.pointer (some ⟨w.heap.size, 0, none⟩)] enters62 A c m2 _ HR.out hc (fun W x cs _ hW hx => ?_) hm).mono ?_
  · obtain rfl := k42_open hx
    exact leaves_calls w.heap.size m1 x W (by have := hW.size; simp at this; omega) ((hW.cell (p := ⟨w.heap.size, 1, none⟩) (by simp)).trans (by simp))
  · rintro e w' ⟨rfl, hb'⟩
    have HB' := Aside0.mk hb'; clear hb'
    go_wp2
    go_ret
    exact ⟨rfl, bch HB.out HB'.out⟩

set_option maxHeartbeats 1000000 in
theorem enabled1_calls (m0 : ByteArray) (m1 : Int) (A : Option Addr) (n c : Nat) (w : World) :
    Calls Try.prog 63 #[.agg #[.string m0, .int .i64 m1, .slice A n c]] w fun e w' => e = .returned (.bool true) ∧ Below w.heap.size w w' := by
  go_enter Try.func63, Try.ntmps63
  go_wp2
  go_ret
  exact ⟨rfl, (Below.refl w.heap.size w).alloc (Nat.le_refl _) _⟩

set_option maxHeartbeats 1000000 in
theorem Keeps_calls (g : Nat) (a0 : ByteArray) (l1 : List S62) (l2 : List S39) (op : ByteArray) (w : World) (h : AutoAt w g a0 l1 l2) (hin : In16 l2) :
    Calls Try.prog 22 #[.pointer (some ⟨g, 0, none⟩), .string op] w fun e w' => e = .returned (.int .u32 (ofM stays op l2 0 : Nat)) ∧ Below w.heap.size w w' := by
  have hcall := Lib.hid (of_calls 60 #[] enters60 stays g a0 l1 l2 op w h hin (fun W x cs _ _ hx => by
    obtain ⟨A, c, rfl, hc, hr⟩ := k39_open hx
    exact keeps1_calls x.f0 x.f1 A c x.f2 W hc hr))
  clear h hin
  go_enter Try.func22, Try.ntmps22
  go_wp2_with fail
  refine hcall.out.mono ?_
  rintro e w' ⟨rfl, hb'⟩
  go_wp2
  go_ret
  exact ⟨rfl, hb'⟩

set_option maxHeartbeats 1000000 in
theorem Enabled_calls (g : Nat) (a0 : ByteArray) (l1 : List S62) (l2 : List S39) (op : ByteArray) (w : World) (h : AutoAt w g a0 l1 l2) (hin : In16 l2) :
    Calls Try.prog 23 #[.pointer (some ⟨g, 0, none⟩), .string op] w fun e w' => e = .returned (.int .u32 (ofM (fun _ => true) op l2 0 : Nat)) ∧ Below w.heap.size w w' := by
  have hcall := Lib.hid (of_calls 63 #[] enters63 (fun _ => true) g a0 l1 l2 op w h hin (fun W x cs _ _ hx => by
    obtain ⟨A, c, rfl, hc, hr⟩ := k39_open hx
    exact enabled1_calls x.f0 x.f1 A x.f2.length c W))
  clear h hin
  go_enter Try.func23, Try.ntmps23
  go_wp2_with fail
  refine hcall.out.mono ?_
  rintro e w' ⟨rfl, hb'⟩
  go_wp2
  go_ret
  exact ⟨rfl, hb'⟩
end Go.Proofs.Ytkgcfgoaabkcpaa.Pa
