import Derived.Test.YtkgcfgoaabkcpaaH1
import Derived.StillTailTactics
import Derived.Maps.OwnOps
import Derived.Deep.DeepCutAuto
namespace Go.Proofs.Ytkgcfgoaabkcpaa.Pa
open Go.RowKit Go.Proofs.YtkgcfgoaabkcpaaW.PrintWords Go.Proofs.YtkgcfgoaabkcpaaW.PrintLast Go.Proofs.YtkgcfgoaabkcpaaW.PrintMore
set_option linter.unusedVariables false
set_option linter.unusedSimpArgs false

/-! ### A watch's making -/
/-- Which protocols a watch takes. -/
def regP : List S25 → List S25 → List S25
  | [], acc => acc
  | p :: ps, acc => regP ps (if (acc.find? fun e => e.f0.toList == p.f0.toList).isSome = true then acc else if (wrongF p.f1 p.f2).1 = 0 then acc ++ [p] else acc)
theorem findR_map (rg : List (Nat × S25)) (nm : ByteArray) : ((rg.map Prod.snd).find? fun e => e.f0.toList == nm.toList) = (findR rg nm).map Prod.snd := by
  unfold findR
  rw [List.find?_map]; rfl
def Fits1 (p : S25) : Prop := Fits p.f1 p.f2
/-- What a watch that takes protocols has made so far: its map's block, its own block. -/
def Taking (w0 W : World) (gm gw : Nat) (rg : List (Nat × S25)) : Prop :=
  ∃ D, W.heap[gw]? = some (.cells #[.map (some gm), .slice none 0 0, .int .i64 0, .bool false] 121 (0, 0)) ∧ W.ownsMap Try.prog 9 Rp gm rg.length D ∧ DatOf D rg ∧ gm < gw ∧ ∀ e ∈ rg, AutoOwn w0 W (fun k => gw < k) e.1 e.2
theorem Taking.below {w0 W W' : World} {gm gw : Nat} {rg : List (Nat × S25)} (h : Taking w0 W gm gw rg) (hb : Below W.heap.size W W') : Taking w0 W' gm gw rg := by
  obtain ⟨D, h1, h2, h3, h4, h5⟩ := h
  exact ⟨D, blk_below h1 hb, h2.kept (grown_of_below hb none) (by simp), h3, h4, fun e he => (h5 e he).move (fun k _ hk => hb.block k hk)⟩
theorem Taking.lt {w0 W : World} {gm gw : Nat} {rg : List (Nat × S25)} (h : Taking w0 W gm gw rg) : gw < W.heap.size := by
  obtain ⟨D, h1, _⟩ := h
  exact blk_lt h1
theorem Taking.drewN {w0 W : World} {gm gw : Nat} {rg : List (Nat × S25)} (h : Taking w0 W gm gw rg) (n : Nat) : Taking w0 (W.drewN n) gm gw rg := h.below (pw_below_drewN (Below.refl _ _) n)
theorem Taking.add {w0 W W' : World} {gm gw g : Nat} {rg : List (Nat × S25)} {x : S25} {D : DataW Unit} (h1 : W'.heap[gw]? = some (.cells #[.map (some gm), .slice none 0 0, .int .i64 0, .bool false] 121 (0, 0)))
    (h2 : W'.ownsMap Try.prog 9 Rp gm (rg.length + 1) (D.put (keyL x.f0) (.lit (.int .i64 g)))) (h3 : DatOf D rg) (hn : findR rg x.f0 = none) (h4 : gm < gw) (h5 : ∀ e ∈ rg, AutoOwn w0 W (fun k => gw < k) e.1 e.2) (h6 : AutoOwn w0 W (fun k => gw < k) g x) (hg : W.grownBy W' (some gm)) :
    Taking w0 W' gm gw (rg ++ [(g, x)]) := by
  have key : ∀ {g' : Nat} {x' : S25}, AutoOwn w0 W (fun k => gw < k) g' x' → AutoOwn w0 W' (fun k => gw < k) g' x' := fun h => h.move (fun k hk hlt => hg.block k hlt (by simp; omega))
  refine ⟨_, h1, by rw [List.length_append]; exact h2, h3.put g x hn, h4, fun e he => ?_⟩
  rcases List.mem_append.1 he with he | he
  · exact key (h5 e he)
  · rw [List.mem_singleton] at he
    subst he
    exact key h6
/-- What is left behind a watch's making. -/
def Took (w0 w : World) (R : List S25) (e : Ending) (w' : World) : Prop := ∃ gw rg, e = .returned (.pointer (some ⟨gw, 0, none⟩)) ∧ rg.map Prod.snd = R ∧ Taking w0 w' w.heap.size gw rg ∧ gw = w.heap.size + 1 ∧ Below w.heap.size w w'

set_option maxHeartbeats 8000000 in
theorem WNew_calls (A : Option Addr) (c : Nat) (ps : List S25) (w0 w : World) (hb0 : Below w0.heap.size w0 w) (hr : Kd.C k25 w0 A ps.length ps) (hf : ∀ p ∈ ps, Fits1 p ∧ p.f0.size ≤ 140737488351232) (hn : ps.length ≤ 1000) :
    Calls Try.prog 35 #[.slice A ps.length c] w (Took w0 w (regP ps [])) := by
  have hmm := @run_makeMap Try.prog
  have HF := Lib.hid hf
  have HR := Lib.hid hr
  have HB0 := Lib.hid hb0
  obtain ⟨R, hR⟩ : ∃ R, R = regP ps [] := ⟨_, rfl⟩
  rw [← hR]
  have HA : Aside0 (regP (ps.drop 0) (([] : List (Nat × S25)).map Prod.snd) = R) := ⟨by rw [List.drop_zero, hR]; rfl⟩
  obtain ⟨W1, hW1⟩ : ∃ W1, W1 = (w.alloc (.map #[] 0)).alloc (.cells #[.map (some w.heap.size), .slice none 0 0, .int .i64 0, .bool false] 121) := ⟨_, rfl⟩
  have HB1 := Lib.hid (show Below w.heap.size w W1 by rw [hW1]; exact ((Below.refl w.heap.size w).alloc (Nat.le_refl _) _).alloc (by simp) _)
  have HTK := Aside0.mk (show Taking w0 W1 w.heap.size (w.heap.size + 1) [] by
    rw [hW1]
    refine ⟨.map [], ?_, (World.ownsMap_made w Try.prog 9 Rp).alloc _, DatOf.nil, by omega, fun e he => by cases he⟩
    have := heap_alloc_new (w.alloc (.map #[] 0)) (.cells #[.map (some w.heap.size), .slice none 0 0, .int .i64 0, .bool false] 121)
    rwa [show (w.alloc (.map #[] 0)).heap.size = w.heap.size + 1 by simp] at this)
  clear hr hf hb0 hR
  go_enter Try.func35, Try.ntmps35
  go_wp2_with fail
  rw [← hW1]
  clear hW1 hmm
  go_loopg [15] ps.length (fun gg s15 wr => ∃ (m : Nat) (rg : List (Nat × S25)), m ≤ ps.length ∧ ps.length - m ≤ gg ∧ s15 = .int .i64 m ∧ rg.length ≤ m ∧ Aside0 (regP (ps.drop m) (rg.map Prod.snd) = R) ∧ Aside0 (Taking w0 wr w.heap.size (w.heap.size + 1) rg) ∧ Aside0 (Below w.heap.size w wr))
  case atStart => exact ⟨0, [], Nat.zero_le _, by omega, rfl, by simp, HA, HTK, ⟨HB1.out⟩⟩
  case round =>
    clear HA HTK HB1
    obtain ⟨m, rg, hm, hg, rfl, hrl, HA, HT, BW⟩ := hrel
    by_cases hlt : m < ps.length
    · have hltz : (m : Int) < (ps.length : Int) := by omega
      have hltd : decide (m < ps.length) = true := decide_eq_true hlt
      obtain ⟨wo, rfl⟩ : ∃ wo : World, wo = wr := ⟨_, rfl⟩
      obtain ⟨ad, B1, d1, B2, d2, e0, h0, h1, h2, hd1, hC1, hd2, hC2⟩ := at_T25 HR.out m (by omega) hltz
      have hbo := bch HB0.out BW.out
      replace h0 := pw_cell_below hbo h0
      replace h1 := pw_cell_below hbo h1
      replace h2 := pw_cell_below hbo h2
      have HC1 := Lib.hid hC1; have HC2 := Lib.hid hC2
      have HBo := Lib.hid hbo
      have hfx := HF.out (rd_T25 ps m) (by unfold rd_T25; exact getD_mem hlt)
      have hget : ps.drop m = rd_T25 ps m :: ps.drop (m + 1) := by unfold rd_T25; exact getD_drop hlt
      have HA1 := HA.out
      rw [hget, regP, findR_map] at HA1
      clear hget HA hC1 hC2 hbo
      generalize rd_T25 ps m = x at h0 h1 h2 hd1 hd2 HC1 HC2 HA1 hfx
      obtain ⟨x0, x1, x2⟩ := x
      simp only at h0 h1 h2 hd1 hd2 HC1 HC2 HA1 hfx
      simp only [Int.toNat_natCast] at h0 h1 h2
      cases e0
      have HFX := Lib.hid hfx
      obtain ⟨W2, hW2⟩ : ∃ W2, W2 = wo.alloc (.cells #[.string x0, .slice B1 x1.length d1, .slice B2 x2.length d2] 25) := ⟨_, rfl⟩
      have HB2 := Lib.hid (show Below wo.heap.size wo W2 by rw [hW2]; exact (Below.refl _ _).alloc (Nat.le_refl _) _)
      have HT2 := Lib.hid (HT.out.below HB2.out)
      have HK2 := Lib.hid (show W2.heap[wo.heap.size]? = some (.cells #[.string x0, .slice B1 x1.length d1, .slice B2 x2.length d2] 25 (0, 0)) by rw [hW2]; exact heap_alloc_new _ _)
      have k0 := blk_cell HK2.out 0
      have k1 := blk_cell HK2.out 1
      have k2 := blk_cell HK2.out 2
      simp only [List.getElem?_toArray, List.getElem?_cons_zero, List.getElem?_cons_succ] at k0 k1 k2
      have hmaxl : x0.size ≤ maxLen := by unfold maxLen; have := hfx.2; omega
      have HML := Lib.hid hmaxl
      have gw0 : W2.cell? ⟨w.heap.size + 1, 0, none⟩ = some (.map (some w.heap.size)) := by
        obtain ⟨D, g1, _⟩ := HT2.out
        simpa using blk_cell g1 0
      clear hfx hmaxl
      go_wp2_with fail
      rw [← hW2]
      clear hW2 h0 h1 h2
      cases hfind : findR rg x0 with
      | some en =>
        have hrun : ∀ n, (Instr.lookup 118 (.map (some w.heap.size)) (.string x0) true).run Try.prog (W2.drewN n) = .ok (.tuple #[.pointer (some ⟨en.1, 0, none⟩), .bool true]) (W2.drewN n) := fun n => by
          obtain ⟨D, _, g2, g3, _⟩ := HT2.out.drewN n
          exact look_some g2 g3 HML.out hfind
        have HA2 : Aside0 (regP (ps.drop (m + 1)) (rg.map Prod.snd) = R) := ⟨by rw [hfind] at HA1; exact HA1⟩
        clear HA1 hfind
        go_quiet (fail)
        go_wp2
        go_roundg (ps.length - (m + 1))
        case measure => omega
        case rel => exact ⟨m + 1, rg, by omega, by omega, by go_num, by omega, HA2, ⟨HT2.out.drewN _⟩, ⟨bch BW.out (pw_below_drewN HB2.out _)⟩⟩
      | none =>
        have hrun : ∀ n, (Instr.lookup 118 (.map (some w.heap.size)) (.string x0) true).run Try.prog (W2.drewN n) = .ok (.tuple #[.pointer none, .bool false]) (W2.drewN n) := fun n => by
          obtain ⟨D, _, g2, g3, _⟩ := HT2.out.drewN n
          exact look_none g2 g3 HML.out hfind
        rw [hfind] at HA1
        have HFD := Lib.hid hfind
        clear hfind
        go_quiet (fail)
        obtain ⟨kw, hkw⟩ := wrong_f x0 x1 x2 HFX.out.1
        obtain ⟨R1, hR1⟩ : ∃ R1, R1 = (wrongF x1 x2).1 := ⟨_, rfl⟩
        obtain ⟨R2, hR2⟩ : ∃ R2, R2 = (wrongF x1 x2).2 := ⟨_, rfl⟩
        have HKW2 := Lib.hid (show auto_Wrong.f kw x0 x1 x2 = some (R1, R2) by rw [hR1, hR2]; exact hkw)
        have HR1 := Lib.hid hR1
        clear hkw hR1 hR2 hrun
        by_cases hz : R1 = 0
        · subst hz
          go_wp2_with fail
          have HB3 := Lib.hid (show ∀ n, Below w0.heap.size w0 (W2.drewN n) from fun n => bch HBo.out (pw_below_drewN HB2.out n))
          refine (New_own kw x0 B1 d1 x1 B2 d2 x2 R2 w0 _ (HB3.out _) HC1.out hd1 HC2.out hd2 HKW2.out HFX.out.1).mono ?_
          rintro e w3 ⟨g, rfl, hown, hb3⟩
          have HOWN := Aside0.mk hown
          have HB4 := Lib.hid (show Below wo.heap.size wo w3 from bch (pw_below_drewN HB2.out _) hb3)
          have HT3 := Lib.hid (HT.out.below HB4.out)
          have HGW := Lib.hid (show w.heap.size + 1 < wo.heap.size from HT.out.lt)
          have HZ := Lib.hid (show wo.heap.size ≤ W2.heap.size from HB2.out.size)
          replace k0 := pw_cell_below hb3 k0
          have HKB := Lib.hid (show w3.heap[wo.heap.size]? = some (.cells #[.string x0, .slice B1 x1.length d1, .slice B2 x2.length d2] 25 (0, 0)) from (hb3.block _ (by have := blk_lt HK2.out; simpa using this)).trans (by have := HK2.out; simpa using this))
          have gw3 : w3.cell? ⟨w.heap.size + 1, 0, none⟩ = some (.map (some w.heap.size)) := by
            obtain ⟨D, g1, _⟩ := HT3.out
            simpa using blk_cell g1 0
          clear hown hb3 k1 k2 gw0
          go_upto_region 9 with (fail)
          have HB34 := Lib.hid (show Below w3.heap.size w3 w3.drew from Below.drew (Below.refl _ _))
          obtain ⟨D, t1, t2, t3, t4, t5⟩ := HT3.out.below HB34.out
          have T1 := Lib.hid t1; have T3 := Lib.hid t3; have T4 := Lib.hid t4; have T5 := Lib.hid t5
          have HRL := Lib.hid (show rg.length < maxLen by unfold maxLen; omega)
          obtain ⟨w5, hrun5, hown5, hgrow5⟩ := t2.update law9 Try.underlying118 HRL.out (WideMaps.keyOf_string_mk Try.underlying9 HML.out) (Rp_some g)
          have HO5 := Aside0.mk hown5; have HG5 := Aside0.mk hgrow5
          have g5 : w5.heap[w.heap.size + 1]? = some (.cells #[.map (some w.heap.size), .slice none 0 0, .int .i64 0, .bool false] 121 (0, 0)) := blk_grown t1 hgrow5 (by simp)
          have HG1 := Lib.hid g5
          have q0 : w5.cell? ⟨w.heap.size + 1, 0, none⟩ = some (.map (some w.heap.size)) := by simpa using blk_cell g5 0
          have q1 : w5.cell? ⟨wo.heap.size, 0, none⟩ = some (.string x0) := by
            have hb1 : w3.drew.heap[wo.heap.size]? = some (.cells #[.string x0, .slice B1 x1.length d1, .slice B2 x2.length d2] 25 (0, 0)) := by
              rw [← HKB.out]; rfl
            have hne := HGW.out
            have := blk_grown hb1 hgrow5 (by simp; omega)
            simpa using blk_cell this 0
          clear t1 t2 t3 t4 t5 hown5 hgrow5 g5
          go_region_held3 (fun w' => w'.cell? ⟨w.heap.size + 1, 0, none⟩ = some (.map (some w.heap.size)) ∧ w'.cell? ⟨wo.heap.size, 0, none⟩ = some (.string x0)) (first | go_keep | exact ⟨q0, q1⟩) ((fail))
          have HOWN2 := Lib.hid (AutoOwn.move (HOWN.out.mono (ok' := fun k => w.heap.size + 1 < k) (fun k hk => Nat.lt_of_lt_of_le HGW.out (Nat.le_trans HZ.out (by simpa using hk)))) (fun k _ hk => HB34.out.block k hk))
          have HA2 : Aside0 (regP (ps.drop (m + 1)) ((rg ++ [(g, (⟨x0, x1, x2⟩ : S25))]).map Prod.snd) = R) := ⟨by
            rw [← HA1, ← HR1.out]; simp⟩
          have HB5 := Lib.hid (show Below w.heap.size w w5 from (bch BW.out (bch HB4.out HB34.out)).grown HG5.out (by have := BW.out.size; have := HB4.out.size; have := HB34.out.size; omega) (by intro k hk; cases hk; exact Nat.le_refl _))
          clear HA1 q0 q1 gw3 k0
          go_wp2
          go_roundg (ps.length - (m + 1))
          case measure => omega
          case rel => exact ⟨m + 1, rg ++ [(g, ⟨x0, x1, x2⟩)], by omega, by omega, by go_num, by simp; omega, HA2, ⟨Taking.add HG1.out HO5.out T3.out HFD.out T4.out T5.out HOWN2.out HG5.out⟩, ⟨HB5.out⟩⟩
        · have hz' : (R1 == 0) = false := beq_eq_false_iff_ne.mpr hz
          go_wp2_with fail
          have HB3 := Lib.hid (show ∀ n, Below w0.heap.size w0 (W2.drewN n) from fun n => bch HBo.out (pw_below_drewN HB2.out n))
          refine (New_no kw x0 B1 d1 x1 B2 d2 x2 R1 R2 _ (Kd.C_below HC1.out (HB3.out _)) hd1 (Kd.C_below HC2.out (HB3.out _)) hd2 HKW2.out hz).mono ?_
          rintro e w3 ⟨rfl, hb3⟩
          have HB4 := Lib.hid (show Below wo.heap.size wo w3 from bch (pw_below_drewN HB2.out _) hb3)
          have HA2 : Aside0 (regP (ps.drop (m + 1)) (rg.map Prod.snd) = R) := ⟨by
            rw [← HA1, ← HR1.out]; simp [hz]⟩
          clear HA1 hb3 k0 k1 k2 gw0
          go_wp2
          go_roundg (ps.length - (m + 1))
          case measure => omega
          case rel => exact ⟨m + 1, rg, by omega, by omega, by go_num, by omega, HA2, ⟨HT.out.below HB4.out⟩, ⟨bch BW.out HB4.out⟩⟩
    · have hltz : ¬ (m : Int) < (ps.length : Int) := by omega
      have hltd : decide (m < ps.length) = false := decide_eq_false hlt
      have HA1 : rg.map Prod.snd = R := by
        have := HA.out; rw [List.drop_of_length_le (by omega : ps.length ≤ m)] at this; exact this
      have HA1 := Lib.hid HA1
      go_wp2
      go_ret
      exact ⟨_, rg, rfl, HA1.out, HT.out, rfl, BW.out⟩
end Go.Proofs.Ytkgcfgoaabkcpaa.Pa
