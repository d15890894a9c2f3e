import Derived.Test.YtkgcfgoaabkcpaaH3
namespace Go.Proofs.Ytkgcfgoaabkcpaa.Pa
open Go.RowKit Go.Proofs.YtkgcfgoaabkcpaaW.PrintWords Go.Proofs.YtkgcfgoaabkcpaaW.PrintLast Go.Proofs.YtkgcfgoaabkcpaaW.PrintMore
set_option linter.unusedVariables false
set_option linter.unusedSimpArgs false

/-! ### done -/
def autoOf (rg : List (Nat × S25)) (g : Nat) : S25 := ((rg.find? fun e => e.1 == g).map Prod.snd).getD z25
theorem autoOf_mem {rg : List (Nat × S25)} {g : Nat} (h : ∃ e ∈ rg, g = e.1) : (g, autoOf rg g) ∈ rg := by
  obtain ⟨e, he, rfl⟩ := h
  unfold autoOf
  cases hf : rg.find? fun x => x.1 == e.1 with
  | none =>
    rw [List.find?_eq_none] at hf
    exact absurd (by simp) (hf e he)
  | some x =>
    have h1 := List.mem_of_find?_eq_some hf
    have h2 := List.find?_some hf
    have h3 : x.1 = e.1 := by simpa using h2
    rw [← h3]
    simpa using h1
/-- A watch that is right. -/
structure GoodW (s : WSt) : Prop where
  autos : ∀ e ∈ s.rg, Right e.2.f1 e.2.f2 ∧ Fits1 e.2
  hs : ∀ h ∈ s.hs, (∃ e ∈ s.rg, h.1 = e.1) ∧ 0 ≤ h.2 ∧ h.2 < (autoOf s.rg h.1).f1.length
def stepTo (outs : List S42) (out : ByteArray) : Int := (rd_T42 outs (idxP (fun o => o.f0.toList == out.toList) outs)).f1
def doneC (s : WSt) (kind hd : Int) (nm out : ByteArray) : Int × List (Nat × Int) :=
  if hd < 0 ∨ (s.hs.length : Int) ≤ hd then (2, s.hs) else
  let h := s.hs.getD hd.toNat (0, 0)
  let outs := outsF h.2 nm (autoOf s.rg h.1).f2
  if outs.length = 0 then (3, s.hs) else
  if idxP (fun o => o.f0.toList == out.toList) outs < 0 ∨ kind = 3 then (4, s.hs) else (0, s.hs.set hd.toNat (h.1, stepTo outs out))

def doneR (hs : List (Nat × Int)) (i : Nat) (ga : Nat) (outs : List S42) (kind : Int) (out : ByteArray) : Int × List (Nat × Int) :=
  if outs.length = 0 then (3, hs) else if idxP (fun o => o.f0.toList == out.toList) outs < 0 ∨ kind = 3 then (4, hs) else (0, hs.set i (ga, stepTo outs out))
theorem doneC_in (s : WSt) (kind : Int) (i : Nat) (nm out : ByteArray) (hi : i < s.hs.length) : doneC s kind (i : Int) nm out = doneR s.hs i s.hs[i].1 (outsF s.hs[i].2 nm (autoOf s.rg s.hs[i].1).f2) kind out := by
  have hget : s.hs.getD ((i : Nat) : Int).toNat (0, 0) = s.hs[i] := by simp [List.getD_eq_getElem?_getD, hi]
  unfold doneC
  rw [if_neg (by omega), hget]; rfl
theorem enters113 : ∀ args w, (callFunc 113 args).run Try.prog w = .ok (.enter 113 args) w := enters_of Try.func113 (by kernel_rfl) rfl
set_option maxHeartbeats 1000000 in
theorem outnamed_calls (B : Nat) (out : ByteArray) (x : S42) (w : World) (hB : B < w.heap.size) (hc : w.cell? ⟨B, 3, none⟩ = some (.string out)) :
    Calls Try.prog 113 #[.agg #[.string x.f0, .int .i64 x.f1], .pointer (some ⟨B, 0, none⟩)] w fun e w' => e = .returned (.bool (x.f0.toList == out.toList)) ∧ Below w.heap.size w w' := by
  have hb := (Below.refl w.heap.size w).alloc (Nat.le_refl _) (.cells #[.string x.f0, .int .i64 x.f1] 42)
  have hc' := (hb.cell (p := ⟨B, 3, none⟩) hB).trans hc
  go_enter Try.func113, Try.ntmps113
  go_wp2
  go_ret
  exact ⟨rfl, hb⟩

theorem WatchAt.auto {w0 W : World} {N gm gw : Nat} {mu : Nat → Prop} {s : WSt} (h : WatchAt w0 W N gm gw mu s) {g : Nat} {x : S25} (he : (g, x) ∈ s.rg) : AutoAt W g x.f0 x.f1 x.f2 := by
  obtain ⟨D, A, c, h1, h2, h3, h4, h5, h6, h7, h8, h9, h10⟩ := h
  exact (h5 _ he).at_ h9
theorem WatchAt.set_ {w0 W : World} {N gm gw : Nat} {mu : Nat → Prop} {s : WSt} (h : WatchAt w0 W N gm gw mu s) {gh i n c : Nat} (hc : W.cell? ⟨gw, 1, none⟩ = some (.slice (some ⟨gh, 0, none⟩) n c)) (hi : i < s.hs.length) (st : Int) :
    WatchAt w0 (W.setCell ⟨gh, i * 2 + 1, none⟩ (.int .i64 st)) N gm gw mu { s with hs := s.hs.set i (s.hs[i].1, st) } ∧ Kept W (W.setCell ⟨gh, i * 2 + 1, none⟩ (.int .i64 st)) mu := by
  obtain ⟨D, A, c', h1, h2, h3, h4, h5, h6, h7, h8, h9, h10⟩ := h
  obtain ⟨g, rfl, hmu, hbs, hlt, _, _, _, _, hset⟩ := kh_at h4 hi
  have e1 : W.cell? ⟨gw, 1, none⟩ = some (.slice (some ⟨g, 0, none⟩) s.hs.length c') := by simpa using blk_cell h1 1
  rw [e1] at hc
  injection hc with hc
  injection hc with e2 _ _
  injection e2 with e2
  injection e2 with e2 _ _
  subst e2
  obtain ⟨s1, s2⟩ := hset st
  have hN := h8 g hmu
  have hgm : gm < W.heap.size := h2.lt
  refine ⟨⟨D, some ⟨g, 0, none⟩, c', ?_, h2.kept s2 (by simp; omega), h3, ?_, fun e he => (h5 e he).move (fun k hk hlt => s2.block k hlt (by simp; omega)), h6, h7, h8, h9.grown s2 (by have := h9.size; omega) (by intro k hk; cases hk; exact hbs), h10⟩, ⟨by simp, fun k hk hnk => s2.block k hk (by intro e; cases e; exact hnk hmu)⟩⟩
  · rw [List.length_set]
    exact blk_grown h1 s2 (by simp; omega)
  · rw [List.length_set]
    exact s1
theorem idxP_lt {α : Type} (p : α → Bool) : ∀ xs : List α, idxP p xs < xs.length ∨ xs = []
  | [] => .inr rfl
  | x :: xs => by
    left
    unfold idxP
    rcases idxP_lt p xs with h | h
    · simp only [List.length_cons]
      split
      · omega
      · split <;> omega
    · subst h
      simp [idxP]
      split <;> omega
/-- What is left behind done. -/
def WDone (w0 W : World) (N gm gw : Nat) (mu : Nat → Prop) (s : WSt) (r : Int) (hs' : List (Nat × Int)) (e : Ending) (w' : World) : Prop :=
  e = .returned (.int .i64 r) ∧ WatchAt w0 w' N gm gw mu { s with hs := hs' } ∧ Kept W w' mu

set_option maxHeartbeats 8000000 in
theorem done_calls (w0 W : World) (N gm gw : Nat) (mu : Nat → Prop) (s : WSt) (kind hd : Int) (nm out : ByteArray) (nn : Int) (hW : WatchAt w0 W N gm gw mu s) (hG : GoodW s) :
    Calls Try.prog 98 #[.pointer (some ⟨gw, 0, none⟩), .agg #[.int .i64 kind, .int .i64 hd, .string nm, .string out, .int .i64 nn]] W (WDone w0 W N gm gw mu s (doneC s kind hd nm out).1 (doneC s kind hd nm out).2) := by
  obtain ⟨W1, hW1⟩ : ∃ W1, W1 = W.alloc (.cells #[.int .i64 kind, .int .i64 hd, .string nm, .string out, .int .i64 nn] 71) := ⟨_, rfl⟩
  have hb1 : Below W.heap.size W W1 := by rw [hW1]; exact (Below.refl _ _).alloc (Nat.le_refl _) _
  have HK := Lib.hid (show W1.heap[W.heap.size]? = some (.cells #[.int .i64 kind, .int .i64 hd, .string nm, .string out, .int .i64 nn] 71 (0, 0)) by rw [hW1]; exact heap_alloc_new _ _)
  have hW2 := hW.below hb1
  have HB1 := Lib.hid hb1
  have HWA := Lib.hid hW
  have HGD := Lib.hid hG
  have HW1 := Lib.hid hW2
  obtain ⟨D, A, c, q1, q2, q3, q4, q5, q6, q7, q8, q9, q10⟩ := hW2
  have g1 : W1.cell? ⟨gw, 1, none⟩ = some (.slice A s.hs.length c) := by simpa using blk_cell q1 1
  have k0 : W1.cell? ⟨W.heap.size, 0, none⟩ = some (.int .i64 kind) := by simpa using blk_cell HK.out 0
  have k1 : W1.cell? ⟨W.heap.size, 1, none⟩ = some (.int .i64 hd) := by simpa using blk_cell HK.out 1
  have k2 : W1.cell? ⟨W.heap.size, 2, none⟩ = some (.string nm) := by simpa using blk_cell HK.out 2
  have k3 : W1.cell? ⟨W.heap.size, 3, none⟩ = some (.string out) := by simpa using blk_cell HK.out 3
  have hlen := (Kd.R_reads' q4).2.1
  have hmax := Kd.C_max (Kd.R_reads' q4).2.2
  have HR := Lib.hid q4
  clear q1 q2 q3 q4 q5 q6 q7 q8 q9 q10 hW hG hb1
  by_cases h0 : hd < 0
  · have HE := Lib.hid (show doneC s kind hd nm out = (2, s.hs) by unfold doneC; rw [if_pos (.inl h0)])
    go_enter Try.func98, Try.ntmps98
    go_wp2_with fail
    rw [← hW1]
    clear hW1
    go_quiet (fail)
    go_wp2
    go_ret
    rw [HE.out]
    exact ⟨rfl, HW1.out.drewN _, Nat.le_trans HB1.out.size (by simp), fun k hk _ => HB1.out.block k hk⟩
  · by_cases h1 : (s.hs.length : Int) ≤ hd
    · have HE := Lib.hid (show doneC s kind hd nm out = (2, s.hs) by unfold doneC; rw [if_pos (.inr h1)])
      go_enter Try.func98, Try.ntmps98
      go_wp2_with fail
      rw [← hW1]
      clear hW1
      go_quiet (fail)
      go_wp2
      go_ret
      rw [HE.out]
      exact ⟨rfl, HW1.out.drewN _, Nat.le_trans HB1.out.size (by simp), fun k hk _ => HB1.out.block k hk⟩
    · obtain ⟨i, rfl⟩ : ∃ i : Nat, hd = (i : Int) := ⟨hd.toNat, by omega⟩
      have hi : i < s.hs.length := by omega
      obtain ⟨gh, rfl, hmu, hbs, hlt, hcells, a0, a1, afr, aset⟩ := kh_at HR.out hi
      have hgd := HGD.out.hs _ (List.getElem_mem hi)
      have hmem := autoOf_mem hgd.1
      have hAt := HW1.out.auto hmem
      have hfit := (HGD.out.autos _ hmem).2
      have HUN := doneC_in s kind i nm out hi
      generalize hx : s.hs[i] = x at a0 a1 aset hgd hmem hAt hfit HUN
      obtain ⟨ga, st⟩ := x
      generalize hp : autoOf s.rg ga = p at hgd hmem hAt hfit HUN
      obtain ⟨p0, p1, p2⟩ := p
      simp only at a0 a1 aset hgd hmem hAt hfit
      have HAT := Lib.hid hAt
      have HFIT := Lib.hid hfit
      have HST := Lib.hid hgd.2
      have ASET := Lib.hid aset
      have HIL := Lib.hid hi
      have hi2 : (i : Int) < (s.hs.length : Int) := by omega
      have hi3 : decide ((i : Int) < 0) = false := decide_eq_false (by omega)
      have hlb : W.heap.size < W1.heap.size := by rw [hW1]; simp
      obtain ⟨T, hT⟩ : ∃ T, T = doneC s kind (i : Int) nm out := ⟨_, rfl⟩
      rw [← hT] at HUN ⊢
      have HT := Lib.hid hT
      have HUN2 := Lib.hid HUN
      have hi4 : decide (s.hs.length ≤ i) = false := decide_eq_false (by omega)
      clear HUN
      have HX := Lib.hid hx
      clear hT hx hmem hp hAt hfit hgd aset
      go_enter Try.func98, Try.ntmps98
      go_wp2_with fail
      rw [← hW1]
      clear hW1
      go_quiet (fail)
      go_wp2_with fail
      go_quiet (fail)
      go_upto_region 4 with (fail)
      generalize hq : (W1.drewN _).drewN _ = wq
      have HBs : Aside0 (Below W1.heap.size W1 wq) := ⟨by rw [← hq]; exact pw_below_drewN (pw_below_drewN (Below.refl _ _) _) _⟩
      have HBd : Aside0 (Below W1.heap.size W1 wq.drew) := ⟨Below.drew HBs.out⟩
      clear hq
      have HC1 := Lib.hid g1
      have K0 := Lib.hid k0; have K1 := Lib.hid k1; have K3 := Lib.hid k3; have A0 := Lib.hid a0; have A1' := Lib.hid a1; have K2 := Lib.hid k2
      replace a0 := pw_cell_below HBs.out a0
      replace a1 := pw_cell_below HBs.out a1
      replace k2 := pw_cell_below HBs.out k2
      clear k0 k1 k3 g1 hi4
      go_region_held3 (fun w' => w'.cell? ⟨gh, i * 2, none⟩ = some (.pointer (some ⟨ga, 0, none⟩)) ∧ w'.cell? ⟨gh, i * 2 + 1, none⟩ = some (.int .i64 st) ∧ w'.cell? ⟨W.heap.size, 2, none⟩ = some (.string nm))
        (first | go_keep | exact ⟨pw_cell_below (Aside0.out (by assumption)) A0.out, pw_cell_below (Aside0.out (by assumption)) A1'.out, pw_cell_below (Aside0.out (by assumption)) K2.out⟩)
        ((go_at_call 31; refine (AOuts_calls ga p0 p1 p2 st nm _ (AutoAt.below HAT.out (Aside0.out (by assumption))) HFIT.out.2.2).mono ?_; rintro e w3 ⟨vo, rfl, ⟨Ao, co, rfl, hco, hCo⟩, hb3⟩; have HB3 : Aside0 (Below W1.heap.size W1 w3) := Aside0.mk (bch (Aside0.out (by assumption)) hb3); have HCO := Aside0.mk hCo; clear hb3 hCo))
      obtain ⟨os, hos⟩ : ∃ os, os = outsF st nm p2 := ⟨_, rfl⟩
      rw [← hos] at hco HCO ⊢
      have HOS := Lib.hid hos
      have hom := Kd.C_max HCO.out
      clear hos a0 a1 k2 HBs HBd
      by_cases hz : os.length = 0
      · have HE := Lib.hid (show T = (3, s.hs) by rw [HUN2.out, ← HOS.out]; unfold doneR; rw [if_pos hz])
        have hz' : (os.length == 0) = true := by simpa using hz
        go_wp2
        go_ret
        rw [HE.out]
        exact ⟨rfl, HW1.out.below HB3.out, Nat.le_trans HB1.out.size HB3.out.size, fun k hk _ => (bch HB1.out HB3.out).block k hk⟩
      · have hz' : (os.length == 0) = false := by simpa using hz
        have HZ := Lib.hid hz
        clear hz
        have HBX := Lib.hid (show W.heap.size < w3.heap.size from Nat.lt_of_lt_of_le hlb HB3.out.size)
        have HK3 := Lib.hid (pw_cell_below HB3.out K3.out)
        obtain ⟨r, hr⟩ : ∃ r, r = idxP (fun o : S42 => o.f0.toList == out.toList) os := ⟨_, rfl⟩
        have hcall := indexFunc42 (fun o => o.f0.toList == out.toList) 113 #[.pointer (some ⟨W.heap.size, 0, none⟩)] enters113 Ao co os w3 HCO.out hco (fun W' x cs _ hW' hx => by
          obtain rfl := k42_open hx
          exact outnamed_calls W.heap.size out x W' (Nat.lt_of_lt_of_le HBX.out hW'.size) (pw_cell_below hW' HK3.out)) hom
        rw [← hr] at hcall
        have HCL := Lib.hid hcall
        have HR1 := Lib.hid hr
        clear hcall hr
        go_wp2_with fail
        refine HCL.out.mono ?_
        rintro e w4 ⟨rfl, hb4⟩
        have HB4 := Aside0.mk (bch HB3.out hb4)
        have HC4 := Aside0.mk (Kd.C_below HCO.out hb4)
        have k0 := pw_cell_below HB4.out K0.out
        clear hb4
        have HW4 := Lib.hid (HW1.out.below HB4.out)
        have HKP := Lib.hid (show Kept W w4 mu from ⟨Nat.le_trans HB1.out.size HB4.out.size, fun k hk _ => (bch HB1.out HB4.out).block k hk⟩)
        by_cases hr0 : r < 0
        · have HE := Lib.hid (show T = (4, s.hs) by rw [HUN2.out, ← HOS.out]; unfold doneR; rw [if_neg HZ.out, ← HR1.out, if_pos (.inl hr0)])
          go_wp2
          go_ret
          rw [HE.out]
          exact ⟨rfl, HW4.out, HKP.out⟩
        · by_cases hk3 : kind = 3
          · have HE := Lib.hid (show T = (4, s.hs) by rw [HUN2.out, ← HOS.out]; unfold doneR; rw [if_neg HZ.out, ← HR1.out, if_pos (.inr hk3)])
            have hk3' : (kind == 3) = true := by simpa using hk3
            clear hk3
            go_wp2
            go_ret
            rw [HE.out]
            exact ⟨rfl, HW4.out, HKP.out⟩
          · have hk3' : (kind == 3) = false := by simpa using hk3
            have HE := Lib.hid (show T = (0, s.hs.set i (ga, stepTo os out)) by rw [HUN2.out, ← HOS.out]; unfold doneR; rw [if_neg HZ.out, ← HR1.out, if_neg (by rintro (h | h); exact hr0 h; exact hk3 h)])
            have hrl : r < (os.length : Int) := by
              rcases idxP_lt (fun o : S42 => o.f0.toList == out.toList) os with h | h
              · rw [HR1.out]; exact h
              · subst h; exact absurd rfl HZ.out
            have hr1 : 0 ≤ r := by omega
            obtain ⟨ado, eo, ho0, ho1⟩ := at_T42 HC4.out r hr1 hrl
            have hto : stepTo os out = (rd_T42 os r).f1 := by unfold stepTo; rw [← HR1.out]
            have HTO := Lib.hid hto
            generalize (rd_T42 os r).f1 = tq at ho1 HTO
            cases eo
            have a1 := pw_cell_below HB4.out A1'.out
            have afr4 : w4.frozen? ⟨gh, i * 2 + 1, none⟩ = false := by
              have := HB4.out.frozen (p := ⟨gh, i * 2 + 1, none⟩) hlt
              rw [this]; exact afr
            have HG1 := Lib.hid (pw_cell_below HB4.out HC1.out)
            clear hk3 hto
            go_wp2
            go_ret
            rw [HE.out]
            have hset := HW4.out.set_ HG1.out HIL.out tq
            rw [HX.out] at hset
            rw [HTO.out]
            exact ⟨rfl, hset.1, ⟨Nat.le_trans HKP.out.1 hset.2.1, fun k hk hnk => (hset.2.2 k (Nat.lt_of_lt_of_le hk HKP.out.1) hnk).trans (HKP.out.2 k hk hnk)⟩⟩
end Go.Proofs.Ytkgcfgoaabkcpaa.Pa
