import Derived.Test.YtkgcfgoaabkcpaaH10
namespace Go.Proofs.Ytkgcfgoaabkcpaa.Pa
open Go.RowKit Go.Proofs.YtkgcfgoaabkcpaaW.PrintWords Go.Proofs.YtkgcfgoaabkcpaaW.PrintLast Go.Proofs.YtkgcfgoaabkcpaaW.PrintMore
set_option linter.unusedVariables false
set_option linter.unusedSimpArgs false

/-! ### Acts -/
structure S71 where
  f0 : Int
  f1 : Int
  f2 : ByteArray
  f3 : ByteArray
  f4 : Int
def z71 : S71 := ⟨0, 0, ⟨#[]⟩, ⟨#[]⟩, 0⟩
def k71 : Kd S71 := Kd.iso (Kd.pair (Kd.int .i64) (Kd.pair (Kd.int .i64) (Kd.pair Kd.string (Kd.pair Kd.string (Kd.int .i64))))) (fun x : S71 => (x.f0, x.f1, x.f2, x.f3, x.f4))
theorem k71_open {w : World} {x : S71} {cs : List Value} (h : k71.K w x cs) : cs = [.int .i64 x.f0, .int .i64 x.f1, .string x.f2, .string x.f3, .int .i64 x.f4] := by
  obtain ⟨_, _, rfl, rfl, ⟨_, _, rfl, rfl, ⟨_, _, rfl, rfl, ⟨_, _, rfl, rfl, rfl⟩⟩⟩⟩ := h
  rfl
def rd_T71 (xs : List S71) (i : Int) : S71 := xs.getD i.toNat z71
theorem at_T71 {w : World} {A : Option Addr} {n : Nat} {xs : List S71} (h : Kd.C k71 w A n xs) (i : Int) (h0 : 0 ≤ i) (h1 : i < n) : ∃ ad , A = some ad ∧ w.cell? (ad.add (i.toNat * 5)) = some (.int .i64 (rd_T71 xs i).f0) ∧ w.cell? ⟨(ad.add (i.toNat * 5)).block, (ad.add (i.toNat * 5)).off + 1, none⟩ = some (.int .i64 (rd_T71 xs i).f1) ∧ w.cell? ⟨(ad.add (i.toNat * 5)).block, (ad.add (i.toNat * 5)).off + 2, none⟩ = some (.string (rd_T71 xs i).f2) ∧ w.cell? ⟨(ad.add (i.toNat * 5)).block, (ad.add (i.toNat * 5)).off + 3, none⟩ = some (.string (rd_T71 xs i).f3) ∧ w.cell? ⟨(ad.add (i.toNat * 5)).block, (ad.add (i.toNat * 5)).off + 4, none⟩ = some (.int .i64 (rd_T71 xs i).f4) := by
  obtain ⟨ad, c, e, _, hK, hc0⟩ := Kd.C_get h z71 i h0 h1
  have hc : ∀ j u, c[j]? = some u → w.cell? (ad.add (i.toNat * 5 + j)) = some u := hc0
  obtain rfl := k71_open hK
  exact ⟨ad, e, hc 0 _ rfl, by rw [← add_field _ _ 1 (by omega)]; exact hc 1 _ rfl, by rw [← add_field _ _ 2 (by omega)]; exact hc 2 _ rfl, by rw [← add_field _ _ 3 (by omega)]; exact hc 3 _ rfl, by rw [← add_field _ _ 4 (by omega)]; exact hc 4 _ rfl⟩
theorem one_I (a b c : Nat) (bad : Int) (en : Bool) : openL (sW a b c [(c, 0)] bad en).rg (sW a b c [(c, 0)] bad en).hs 0 = [0] := open_I a b c

set_option maxHeartbeats 16000000 in
theorem WatchEnds_walk (A : Option Addr) (c : Nat) (acts : List S71) (ex : Bool) (w : World) (hr : Kd.C k71 w A acts.length acts) (hc : acts.length ≤ c) (hs : ∀ x ∈ acts, x.f2.size ≤ 140737488351232) :
    Calls Try.prog 10 #[.slice A acts.length c, .bool ex] w fun e w' => e = .returned (.bool true) ∧ Below w.heap.size w w' := by
  have HR := Lib.hid hr
  have HS := Lib.hid hs
  have hmx := Kd.C_max hr
  clear hr hs
  go_enter Try.func10, Try.ntmps10
  go_wp2_with fail
  refine (wawake_calls w).mono ?_
  rintro e w1 ⟨rfl, hb1⟩
  have HB1 := Aside0.mk hb1
  clear hb1
  by_cases hl : acts.length ≤ 60
  case neg =>
    have hl' : 60 < acts.length := by omega
    go_wp2_with fail
    refine (wawake_calls w1).mono ?_
    rintro e w2 ⟨rfl, hb2⟩
    have HB2 := Aside0.mk (bch HB1.out hb2)
    clear hb2
    go_wp2
    go_ret
    exact ⟨rfl, HB2.out⟩
  go_wp2_with fail
  refine (All_calls w1).mono ?_
  rintro e w2 ⟨Ap, cp, rfl, hcp, hCp, hb2⟩
  have HCP := Aside0.mk hCp; have HB2 := Aside0.mk (bch HB1.out hb2)
  clear hCp hb2
  go_wp2_with fail
  refine (New1 Ap cp w2 HCP.out).mono ?_
  rintro e w3 ⟨N, gm, gw, a, b, d, rfl, hO⟩
  have HO3 := Aside0.mk hO
  clear hO
  go_wp2_with fail
  refine (Feed1 w2 w3 N gm gw _ _ 0 0 _ _ _ 0 HO3.out (good_nil a b d 0 false) (by decide) (Nat.zero_le _) (Int.le_refl 0) lz (feed_openI a b d)).mono ?_
  rintro e w4 ⟨rfl, hO⟩
  have HO4 := Aside0.mk hO
  clear hO HO3
  go_upto_if 21 with (fail)
  go_cut [6] (fun s6 wx => ∃ kd : Int, s6 = .int .i64 kd ∧ (kd = 4 ∨ kd = 5) ∧ wx = w4)
  case first =>
    cases ex
    all_goals
      go_wp2_with fail
      go_meet
      exact ⟨_, rfl, by decide, rfl⟩
  case rest =>
    obtain ⟨kd, rfl, hkd, rfl⟩ := hcut
    have HE := Lib.hid (feed_end a b d [(d, 0)] kd hkd)
    clear hkd
    go_wp2_with fail
    refine (Feed1 w2 _ N gm gw _ _ kd 0 _ _ _ 0 HO4.out (good_I a b d 0 false) (by decide) l1 (Int.le_refl 0) lz HE.out).mono ?_
    rintro e w5 ⟨rfl, hO⟩
    have HO5 := Aside0.mk hO
    clear hO HO4
    go_wp2_with fail
    refine (Ended_calls w2 w5 N gm gw _ _ HO5.out.1).mono ?_
    rintro e w6 ⟨rfl, rfl⟩
    have hen : (sW a b d [(d, 0)] 0 true).ended = true := rfl
    rw [hen]
    clear hen
    go_wp2_with fail
    go_loopg [7] acts.length (fun gg s7 wr => ∃ (i : Nat), i ≤ acts.length ∧ acts.length - i ≤ gg ∧ s7 = .int .i64 i ∧ Aside0 (One w2 wr N gm gw (sW a b d [(d, 0)] (i : Int) true)))
    case atStart => exact ⟨0, Nat.zero_le _, by omega, rfl, HO5⟩
    case round =>
      clear HO5
      obtain ⟨i, hi, hg, rfl, HO⟩ := hrel
      obtain ⟨wo, rfl⟩ : ∃ wo : World, wo = wr := ⟨_, rfl⟩
      by_cases hlt : i < acts.length
      · have hltz : (i : Int) < (acts.length : Int) := by omega
        have hltd : decide (i < acts.length) = true := decide_eq_true hlt
        obtain ⟨ad, e0, q0, q1, q2, q3, q4⟩ := at_T71 (Kd.C_below HR.out (bch HB2.out HO.out.base)) i (by omega) hltz
        have hsz := HS.out (rd_T71 acts i) (by unfold rd_T71; exact getD_mem hlt)
        generalize rd_T71 acts (i : Int) = x at q0 q1 q2 q3 q4 hsz
        obtain ⟨x0, x1, x2, x3, x4⟩ := x
        simp only at q0 q1 q2 q3 q4 hsz
        simp only [Int.toNat_natCast] at q0 q1 q2 q3 q4
        cases e0
        have HB := Lib.hid (show (i : Int) ≤ 1000000 by omega)
        have HFB := Lib.hid (feed_behind a b d [(d, 0)] (i : Int) x0 x1 x2 x3)
        go_wp2_with fail
        refine (Feed1 w2 _ N gm gw _ _ x0 x1 _ _ _ x4 HO.out (good_I a b d i true) hsz l1 (by show (0 : Int) ≤ (i : Int); omega) HB.out HFB.out).mono ?_
        rintro e w6 ⟨rfl, hO⟩
        have HO6 := Aside0.mk hO
        clear hO HO q0 q1 q2 q3 q4
        go_wp2_with fail
        refine (Violations_calls w2 w6 N gm gw _ _ HO6.out.1).mono ?_
        rintro e w7 ⟨rfl, rfl⟩
        have hbad : (sW a b d [(d, 0)] ((i : Int) + 1) true).bad = (i : Int) + 1 := rfl
        rw [hbad]
        clear hbad
        go_wp2_with fail
        refine (Open_calls w2 _ N gm gw _ _ HO6.out.1 (good_I a b d _ true) l1).mono ?_
        rintro e w8 ⟨v, rfl, ⟨Ao, co, rfl, hco, hCo⟩, hb8⟩
        have HO8 := Aside0.mk (HO6.out.below hb8)
        rw [one_I]
        clear hb8 HO6 hco hCo
        go_wp2
        go_roundg (acts.length - (i + 1))
        case measure => omega
        case rel => exact ⟨i + 1, by omega, by omega, by go_num, HO8⟩
      · have hltz : ¬ (i : Int) < (acts.length : Int) := by omega
        have hltd : decide (i < acts.length) = false := decide_eq_false hlt
        go_wp2
        go_ret
        exact ⟨rfl, bch HB2.out HO.out.base⟩

theorem opens2 : Opens Try.prog 2 (Kd.int .i64) (fun x => (Lit.int .i64 x).wf = true) := opens_int Try.underlying2 (by kernel_rfl)
def Q71 (x : S71) : Prop := (Lit.int .i64 x.f0).wf = true ∧ (Lit.int .i64 x.f1).wf = true ∧ x.f2.size ≤ reachBytes ∧ x.f3.size ≤ reachBytes ∧ (Lit.int .i64 x.f4).wf = true
def Q76 (l : List S71) : Prop := l.length * Try.prog.bytesOf 71 ≤ reachBytes ∧ ∀ a ∈ l, Q71 a
theorem opens71 : Opens Try.prog 71 k71 Q71 := by
  have h := opens_iso (opens_struct5 Try.underlying71 rfl rfl rfl rfl rfl (by kernel_rfl) opens3 opens3 opens9 opens9 opens2) (fun x : S71 => (x.f0, x.f1, x.f2, x.f3, x.f4)) (fun x => ⟨x.1, x.2.1, x.2.2.1, x.2.2.2.1, x.2.2.2.2⟩) (fun _ => rfl)
  exact h
theorem opens76 : Opens Try.prog 76 (Kd.slice 71 k71) Q76 := by
  have h := opens_slice Try.underlying76 (by kernel_rfl) opens71
  exact h
theorem Q76.names {l : List S71} (h : Q76 l) : ∀ x ∈ l, x.f2.size ≤ 140737488351232 := fun x hx => by
  have hb : reachBytes = 140737488351232 := by decide
  rw [← hb]; exact (h.2 x hx).2.2.1
theorem WatchEnds_row (A : Option Addr) (c : Nat) (x : List S71) (ex : Bool) (w : World) (hC : Kd.C k71 w A x.length x) (hc : x.length ≤ c) (hq : Q76 x) : Calls Try.prog 10 #[.slice A x.length c, .bool ex] w fun e w' => e = .returned (.bool true) ∧ Below w.heap.size w w' :=
  WatchEnds_walk A c x ex w hC hc hq.names
end Go.Proofs.Ytkgcfgoaabkcpaa.Pa
