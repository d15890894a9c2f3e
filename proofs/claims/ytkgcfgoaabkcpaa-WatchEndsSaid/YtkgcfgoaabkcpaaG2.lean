import Derived.Test.YtkgcfgoaabkcpaaG1
namespace Go.Proofs.Ytkgcfgoaabkcpaa.Pa
open Go.RowKit Go.Proofs.YtkgcfgoaabkcpaaW.PrintWords Go.Proofs.YtkgcfgoaabkcpaaW.PrintLast Go.Proofs.YtkgcfgoaabkcpaaW.PrintMore
set_option linter.unusedVariables false
set_option linter.unusedSimpArgs false

/-! ### Ops, Outcomes -/
def hasS (l : List ByteArray) (s : ByteArray) : Bool := l.any fun x => s.toList == x.toList
def addS (l : List ByteArray) (s : ByteArray) : List ByteArray := if hasS l s = true then l else l ++ [s]
def outcO : List S42 → List ByteArray → List ByteArray
  | [], a => a
  | o :: os, a => outcO os (addS a o.f0)
def outcM (op : ByteArray) : List S39 → List ByteArray → List ByteArray
  | [], a => a
  | m :: ms, a => outcM op ms (if (m.f0.toList == op.toList) = true then outcO m.f2 a else a)
def outcI (b : Bool) (os : List S42) (a : List ByteArray) : List ByteArray := if b = true then outcO os a else a
def opsM : List S39 → List ByteArray → List ByteArray
  | [], a => a
  | m :: ms, a => opsM ms (addS a m.f0)

theorem index_f (l : List ByteArray) (s : ByteArray) (hl : l.length ≤ 4611686018427387904) : ∀ (d k i : Nat), i + d = l.length → d < k →
    ∃ r, slices_Index_string_string.l0 k l s (l.length : Int) i = some r ∧ (0 ≤ r ↔ hasS (l.drop i) s = true) := by
  intro d
  induction d with
  | zero =>
    intro k i hi hk
    obtain ⟨k, rfl⟩ : ∃ m, k = m + 1 := ⟨k - 1, by omega⟩
    refine ⟨-1, ?_, ?_⟩
    · simp only [slices_Index_string_string.l0]; rw [if_neg (by omega)]
    · rw [List.drop_of_length_le (by omega)]; simp [hasS]
  | succ d ih =>
    intro k i hi hk
    obtain ⟨k, rfl⟩ : ∃ m, k = m + 1 := ⟨k - 1, by omega⟩
    have hlt : i < l.length := by omega
    have hd : l.drop i = rdOf ByteArray.empty l i :: l.drop (i + 1) := by
      unfold rdOf; exact getD_drop hlt
    simp only [slices_Index_string_string.l0]
    rw [if_pos (by omega), if_pos (by omega), if_pos (by omega), hd]
    by_cases h : s.toList = (rdOf ByteArray.empty l i).toList
    · rw [if_pos h]
      exact ⟨_, rfl, by simp [hasS, h]⟩
    · rw [if_neg h, wrap_succ (by omega)]
      obtain ⟨r, h1, h2⟩ := ih k (i + 1) (by omega) (by omega)
      exact ⟨r, h1, h2.trans (by simp [hasS, h])⟩
theorem contains_run (A0 : Option Addr) (c0 : Nat) (l0 : List ByteArray) (a1 : ByteArray) (w : World) (hr0 : Kd.C Kd.string w A0 l0.length l0) (hc0 : l0.length ≤ c0) (hl : l0.length ≤ 4611686018427387904) :
    Calls Try.prog 64 #[.slice A0 l0.length c0, .string a1] w fun e w' => e = .returned (.bool (hasS l0 a1)) ∧ Drawn0 w w' := by
  refine slices_Contains_string_string.calls (l0.length + 1) A0 c0 l0 a1 _ w hr0 hc0 ?_
  obtain ⟨r, h1, h2⟩ := index_f l0 a1 hl l0.length (l0.length + 1) 0 (by omega) (by omega)
  unfold slices_Contains_string_string.f slices_Index_string_string.f
  rw [show ((0 : Nat) : Int) = 0 from rfl] at h1
  rw [h1]
  simp only [Option.bind_some, Option.some.injEq]
  rw [List.drop_zero] at h2
  cases hh : hasS l0 a1 with
  | true => exact decide_eq_true (h2.2 hh)
  | false => exact decide_eq_false (fun h => by rw [h2.1 h] at hh; cases hh)
theorem addS_len (l : List ByteArray) (s : ByteArray) : (addS l s).length ≤ l.length + 1 := by
  unfold addS; split <;> simp

/-- What a function hands back: a row of texts. -/
def RdS (w : World) (v : Value) (xs : List ByteArray) : Prop := ∃ A c, v = .slice A xs.length c ∧ xs.length ≤ c ∧ Kd.C Kd.string w A xs.length xs
theorem RdS.below {w w' : World} {v : Value} {xs : List ByteArray} (h : RdS w v xs) (hb : Below w.heap.size w w') : RdS w' v xs := by
  obtain ⟨A, c, h1, h2, h3⟩ := h
  exact ⟨A, c, h1, h2, Kd.C_below h3 hb⟩

set_option maxHeartbeats 4000000 in
theorem Ops_calls (g : Nat) (a0 : ByteArray) (l1 : List S62) (l2 : List S39) (w : World) (h : AutoAt w g a0 l1 l2) (hl : l2.length ≤ 1000) :
    Calls Try.prog 25 #[.pointer (some ⟨g, 0, none⟩)] w fun e w' => ∃ v, e = .returned v ∧ RdS w' v (opsM l2 []) ∧ Below w.heap.size w w' := by
  obtain ⟨A1, c1, A2, c2, hh, k1, p1, k2, p2⟩ := h
  have f2 : w.cell? ⟨g, 2, none⟩ = some (.slice A2 l2.length c2) := by simp [World.cell?, hh]
  have HP := Lib.hid p2
  obtain ⟨R, hR⟩ : ∃ R, R = opsM l2 [] := ⟨_, rfl⟩
  rw [← hR]
  have HA : Aside0 (opsM (l2.drop 0) [] = R) := ⟨by rw [List.drop_zero, hR]⟩
  have HN := Aside0.mk (Kd.R_nil Kd.string 9 w w.heap.size (fun _ => True))
  clear hh p1 p2 hR
  go_enter Try.func25, Try.ntmps25
  go_wp2
  go_loopg [3, 12] l2.length (fun gm s3 s12 wm => ∃ (m : Nat) (acc : List ByteArray), m ≤ l2.length ∧ l2.length - m ≤ gm ∧ s12 = .int .i64 m ∧ acc.length ≤ m ∧ Aside0 (Kd.string.R 9 wm w.heap.size (fun _ => True) s3 acc) ∧ Aside0 (opsM (l2.drop m) acc = R) ∧ Aside0 (Below w.heap.size w wm))
  case atStart => exact ⟨0, [], Nat.zero_le _, by omega, rfl, by simp, HN, HA, ⟨Below.refl _ _⟩⟩
  case round =>
    clear HA HN
    obtain ⟨m, acc, hm, hgm, rfl, hal, HR, HA, BW⟩ := hrel
    obtain ⟨Ao, co, rfl, hco, hCo⟩ := Kd.R_reads HR.out
    have HCo := Aside0.mk hCo; clear hCo
    by_cases hlm : m < l2.length
    · have hlmz : (m : Int) < (l2.length : Int) := by omega
      have hlmd : decide (m < l2.length) = true := decide_eq_true hlm
      obtain ⟨wo, rfl⟩ : ∃ wo : World, wo = wr := ⟨_, rfl⟩
      obtain ⟨adm, Am, cm, em, hm0, hm1, hm2, hmc, hmo⟩ := at_T39 (Kd.C_below HP.out BW.out) m (by omega) hlmz
      have hgetm := drop39 hlm
      have HA1 := HA.out
      rw [hgetm, opsM] at HA1
      clear hgetm HA
      generalize rd_T39 l2 m = mv at hm0 hm1 hm2 hmc hmo HA1
      obtain ⟨v0, v1, v2⟩ := mv
      simp only at hm0 hm1 hm2 hmc hmo HA1
      simp only [Int.toNat_natCast] at hm0 hm1 hm2
      cases em
      have hol := Kd.C_max hmo
      clear hmo
      obtain ⟨W1, hW1⟩ : ∃ W1, W1 = wo.alloc (.cells #[.string v0, .int .i64 v1, .slice Am v2.length cm] 39) := ⟨_, rfl⟩
      have HB1 := Lib.hid (show Below wo.heap.size wo W1 by rw [hW1]; exact (Below.refl _ _).alloc (Nat.le_refl _) _)
      have hcall := Lib.hid (contains_run Ao co acc v0 W1 (Kd.C_below HCo.out HB1.out) hco (by omega))
      have M0 := Lib.hid (show ∀ n, (W1.drewN n).cell? ⟨wo.heap.size, 0, none⟩ = some (.string v0) by intro n; rw [hW1]; exact World.cell?_alloc_at _ _ _ _ rfl)
      have HB1z := Lib.hid (show w.heap.size ≤ W1.heap.size from Nat.le_trans BW.out.size HB1.out.size)
      have tok1 : True := trivial
      cases hhas : hasS acc v0 with
      | true =>
        rw [hhas] at hcall
        have HA2 : Aside0 (opsM (l2.drop (m + 1)) acc = R) := ⟨by unfold addS at HA1; rw [if_pos hhas] at HA1; exact HA1⟩
        clear HA1 hhas
        go_wp2_with fail
        rw [← hW1]
        refine hcall.out.mono ?_
        rintro e w' ⟨rfl, ⟨⟨nq, rfl⟩⟩⟩
        clear hW1
        go_wp2
        go_roundg (l2.length - (m + 1))
        case measure => omega
        case rel => exact ⟨m + 1, acc, by omega, by omega, by go_num, by omega, ⟨Kd.R_drewN (Kd.R_below HR.out HB1.out) _⟩, HA2, ⟨bch BW.out (pw_below_drewN HB1.out _)⟩⟩
      | false =>
        rw [hhas] at hcall
        have HA2 : Aside0 (opsM (l2.drop (m + 1)) (acc ++ [v0]) = R) := ⟨by unfold addS at HA1; rw [if_neg (by rw [hhas]; simp)] at HA1; exact HA1⟩
        clear HA1 hhas
        go_wp2_with fail
        rw [← hW1]
        refine hcall.out.mono ?_
        rintro e w' ⟨rfl, ⟨⟨nq, rfl⟩⟩⟩
        have m0 := M0.out nq
        have HR1 := Aside0.mk (Kd.R_drewN (Kd.R_below HR.out HB1.out) nq)
        have HBB := Aside0.mk (bch BW.out (pw_below_drewN HB1.out nq))
        clear hW1
        go_wp2_with (at_builtin; refine Kd.R_append Kd.string (w0 := w) w.heap.size rfl _ _ 47 9 (.string ⟨#[]⟩) 16 rfl Try.underlying47 info9 rfl (by decide) (by decide) (.slice Ao acc.length co) acc v0 [.string v0] (fun _ => True) (fun _ => False) rfl rfl rfl (fun _ h => h.elim) (fun _ _ => trivial) HR1.out HBB.out HB1z.out (by omega) ?_; intro v1' w1 hR1 hB1 hg1 _hat1; have HR1' := Aside0.mk hR1; have HB1' := Aside0.mk hB1; clear hR1 hB1 hg1 _hat1 tok1)
        go_roundg (l2.length - (m + 1))
        case measure => omega
        case rel => exact ⟨m + 1, acc ++ [v0], by omega, by omega, by go_num, by simp; omega, HR1', HA2, HB1'⟩
    · have hlmz : ¬ (m : Int) < (l2.length : Int) := by omega
      have hlmd : decide (m < l2.length) = false := decide_eq_false hlm
      have HA1 : acc = R := by
        have := HA.out; rw [List.drop_of_length_le (by omega : l2.length ≤ m)] at this; exact this
      subst HA1
      go_wp2
      go_ret
      exact ⟨_, rfl, ⟨_, _, rfl, hco, HCo.out⟩, BW.out⟩

set_option maxHeartbeats 8000000 in
theorem Outcomes_calls (g : Nat) (a0 : ByteArray) (l1 : List S62) (l2 : List S39) (op : ByteArray) (w : World) (h : AutoAt w g a0 l1 l2) (hl : l2.length ≤ 1000) (hl2 : ∀ m ∈ l2, m.f2.length ≤ 1000) :
    Calls Try.prog 24 #[.pointer (some ⟨g, 0, none⟩), .string op] w fun e w' => ∃ v, e = .returned v ∧ RdS w' v (outcM op l2 []) ∧ Below w.heap.size w w' := by
  obtain ⟨A1, c1, A2, c2, hh, k1, p1, k2, p2⟩ := h
  have f2 : w.cell? ⟨g, 2, none⟩ = some (.slice A2 l2.length c2) := by simp [World.cell?, hh]
  have HP := Lib.hid p2
  have HL2 := Lib.hid hl2
  obtain ⟨R, hR⟩ : ∃ R, R = outcM op l2 [] := ⟨_, rfl⟩
  rw [← hR]
  have HA : Aside0 (outcM op (l2.drop 0) [] = R) := ⟨by rw [List.drop_zero, hR]⟩
  have HN := Aside0.mk (Kd.R_nil Kd.string 9 w w.heap.size (fun _ => True))
  clear hh p1 p2 hR hl2
  go_enter Try.func24, Try.ntmps24
  go_wp2
  go_loopg [5, 16] l2.length (fun gm s5 s16 wm => ∃ (m : Nat) (acc : List ByteArray), m ≤ l2.length ∧ l2.length - m ≤ gm ∧ s16 = .int .i64 m ∧ acc.length ≤ m * 1000 ∧ Aside0 (Kd.string.R 9 wm w.heap.size (fun _ => True) s5 acc) ∧ Aside0 (outcM op (l2.drop m) acc = R) ∧ Aside0 (Below w.heap.size w wm))
  case atStart => exact ⟨0, [], Nat.zero_le _, by omega, rfl, by simp, HN, HA, ⟨Below.refl _ _⟩⟩
  case round =>
    clear HA HN
    obtain ⟨m, acc, hm, hgm, rfl, hal, HR, HA, BW⟩ := hrel
    by_cases hlm : m < l2.length
    · have hlmz : (m : Int) < (l2.length : Int) := by omega
      have hlmd : decide (m < l2.length) = true := decide_eq_true hlm
      obtain ⟨wo, rfl⟩ : ∃ wo : World, wo = wr := ⟨_, rfl⟩
      obtain ⟨adm, Am, cm, em, hm0, hm1, hm2, hmc, hmo⟩ := at_T39 HP.out m (by omega) hlmz
      replace hm0 := pw_cell_below BW.out hm0
      replace hm1 := pw_cell_below BW.out hm1
      replace hm2 := pw_cell_below BW.out hm2
      have hgetm := drop39 hlm
      have hvl := HL2.out _ (rd39_mem hlm)
      have HA1 := HA.out
      rw [hgetm] at HA1
      clear hgetm HA
      generalize rd_T39 l2 m = mv at hm0 hm1 hm2 hmc hmo HA1 hvl
      obtain ⟨v0, v1, v2⟩ := mv
      simp only at hm0 hm1 hm2 hmc hmo HA1 hvl
      simp only [Int.toNat_natCast] at hm0 hm1 hm2
      cases em
      have hol := Kd.C_max hmo
      obtain ⟨W1, hW1⟩ : ∃ W1, W1 = wo.alloc (.cells #[.string v0, .int .i64 v1, .slice Am v2.length cm] 39) := ⟨_, rfl⟩
      have HB1 := Lib.hid (show Below wo.heap.size wo W1 by rw [hW1]; exact (Below.refl _ _).alloc (Nat.le_refl _) _)
      have hszo : wo.heap.size < W1.heap.size := by rw [hW1]; simp
      have M0 := Lib.hid (show W1.heap[wo.heap.size]? = some (.cells #[.string v0, .int .i64 v1, .slice Am v2.length cm] 39 (0, 0)) by rw [hW1]; exact heap_alloc_new _ _)
      have HMO := Lib.hid hmo; clear hmo
      rw [outcM] at HA1
      simp only at HA1
      have HA2 : Aside0 (outcM op (l2.drop (m + 1)) (outcI (v0.toList == op.toList) (v2.drop 0) acc) = R) := ⟨by rw [List.drop_zero]; exact HA1⟩
      have HRs := Aside0.mk (Kd.R_below HR.out HB1.out)
      clear HA1 HR
      go_wp2
      rw [← hW1]
      clear hW1 hm0 hm1 hm2
      go_loopg [5, 23] v2.length (fun go s5 s23 wq => ∃ (o : Nat) (acc : List ByteArray), o ≤ v2.length ∧ v2.length - o ≤ go ∧ s23 = .int .i64 o ∧ acc.length ≤ m * 1000 + o ∧ Aside0 (Kd.string.R 9 wq w.heap.size (fun _ => True) s5 acc) ∧ Aside0 (outcM op (l2.drop (m + 1)) (outcI (v0.toList == op.toList) (v2.drop o) acc) = R) ∧ Aside0 (Below w.heap.size w wq) ∧ Aside0 (wq.heap[wo.heap.size]? = some (.cells #[.string v0, .int .i64 v1, .slice Am v2.length cm] 39 (0, 0))))
      case atStart => exact ⟨0, acc, Nat.zero_le _, by omega, rfl, by simpa using hal, HRs, HA2, ⟨bch BW.out HB1.out⟩, ⟨M0.out⟩⟩
      case round =>
        clear HA2 HRs hal acc hszo M0 HB1
        obtain ⟨o, acc, ho, hgo, rfl, hal, HR, HA, BQ, MQ⟩ := hrel
        obtain ⟨Ao, co, rfl, hco, hCo⟩ := Kd.R_reads HR.out
        have HCo := Aside0.mk hCo; clear hCo
        by_cases hlo : o < v2.length
        · have hloz : (o : Int) < (v2.length : Int) := by omega
          have hlod : decide (o < v2.length) = true := decide_eq_true hlo
          obtain ⟨wp, rfl⟩ : ∃ wp : World, wp = wr := ⟨_, rfl⟩
          obtain ⟨ado, eo, ho0, ho1⟩ := at_T42 (Kd.C_below HMO.out BQ.out) o (by omega) hloz
          have hgeto := drop42 hlo
          have HA1 := HA.out
          rw [hgeto] at HA1
          clear hgeto HA
          generalize rd_T42 v2 o = ov at ho0 ho1 HA1
          obtain ⟨o0, o1⟩ := ov
          simp only at ho0 ho1 HA1
          simp only [Int.toNat_natCast] at ho0 ho1
          cases eo
          unfold outcI at HA1
          rw [outcO] at HA1
          simp only at HA1
          obtain ⟨W2, hW2⟩ : ∃ W2, W2 = wp.alloc (.cells #[.string o0, .int .i64 o1] 42) := ⟨_, rfl⟩
          have HB2 := Lib.hid (show Below wp.heap.size wp W2 by rw [hW2]; exact (Below.refl _ _).alloc (Nat.le_refl _) _)
          have hszq := blk_lt MQ.out
          have mq := blk_cell MQ.out 0
          simp only [List.getElem?_toArray, List.getElem?_cons_zero] at mq
          have HM2 := Lib.hid (blk_below MQ.out HB2.out)
          cases hop : (v0.toList == op.toList) with
          | false =>
            have HA2 : Aside0 (outcM op (l2.drop (m + 1)) (outcI (v0.toList == op.toList) (v2.drop (o + 1)) acc) = R) := ⟨by unfold outcI; rw [hop] at HA1 ⊢; exact HA1⟩
            clear HA1
            go_wp2
            rw [← hW2]
            go_roundg (v2.length - (o + 1))
            case measure => omega
            case rel => exact ⟨o + 1, acc, by omega, by omega, by go_num, by omega, ⟨Kd.R_below HR.out HB2.out⟩, HA2, ⟨bch BQ.out HB2.out⟩, ⟨HM2.out⟩⟩
          | true =>
            have hcall := Lib.hid (contains_run Ao co acc o0 W2 (Kd.C_below HCo.out HB2.out) hco (by omega))
            have N0 := Lib.hid (show ∀ n, (W2.drewN n).cell? ⟨wp.heap.size, 0, none⟩ = some (.string o0) by intro n; rw [hW2]; exact World.cell?_alloc_at _ _ _ _ rfl)
            have HB1z := Lib.hid (show w.heap.size ≤ W2.heap.size from Nat.le_trans BQ.out.size HB2.out.size)
            rw [hop] at HA1
            rw [if_pos rfl] at HA1
            cases hhas : hasS acc o0 with
            | true =>
              rw [hhas] at hcall
              have HA2 : Aside0 (outcM op (l2.drop (m + 1)) (outcI (v0.toList == op.toList) (v2.drop (o + 1)) acc) = R) := ⟨by unfold addS at HA1; rw [if_pos hhas] at HA1; unfold outcI; rw [if_pos hop]; exact HA1⟩
              clear HA1 hhas
              go_wp2_with fail
              rw [← hW2]
              refine hcall.out.mono ?_
              rintro e w' ⟨rfl, ⟨⟨nq, rfl⟩⟩⟩
              clear hW2
              go_wp2
              go_roundg (v2.length - (o + 1))
              case measure => omega
              case rel => exact ⟨o + 1, acc, by omega, by omega, by go_num, by omega, ⟨Kd.R_drewN (Kd.R_below HR.out HB2.out) _⟩, HA2, ⟨bch BQ.out (pw_below_drewN HB2.out _)⟩, ⟨blk_drewN HM2.out _⟩⟩
            | false =>
              rw [hhas] at hcall
              have HA2 : Aside0 (outcM op (l2.drop (m + 1)) (outcI (v0.toList == op.toList) (v2.drop (o + 1)) (acc ++ [o0])) = R) := ⟨by unfold addS at HA1; rw [if_neg (by rw [hhas]; simp)] at HA1; unfold outcI; rw [if_pos hop]; exact HA1⟩
              clear HA1 hhas
              go_wp2_with fail
              rw [← hW2]
              refine hcall.out.mono ?_
              rintro e w' ⟨rfl, ⟨⟨nq, rfl⟩⟩⟩
              have n0 := N0.out nq
              have HR1 := Aside0.mk (Kd.R_drewN (Kd.R_below HR.out HB2.out) nq)
              have HBB := Aside0.mk (bch BQ.out (pw_below_drewN HB2.out nq))
              clear hW2
              go_wp2_with (at_builtin; refine Kd.R_append Kd.string (w0 := w) w.heap.size rfl _ _ 47 9 (.string ⟨#[]⟩) 16 rfl Try.underlying47 info9 rfl (by decide) (by decide) (.slice Ao acc.length co) acc o0 [.string o0] (fun _ => True) (fun _ => False) rfl rfl rfl (fun _ h => h.elim) (fun _ _ => trivial) HR1.out HBB.out HB1z.out (by omega) ?_; intro v1' w1 hR1 hB1 hg1 _hat1; have HR1' := Aside0.mk hR1; have HB1' := Aside0.mk hB1; have HG1 := Aside0.mk hg1; clear hR1 hB1 hg1 _hat1)
              have HM3 := Aside0.mk (blk_grown (blk_drewN HM2.out nq) HG1.out (Kd.R_ne HR1.out (blk_drewN HM2.out nq) (by decide)))
              go_roundg (v2.length - (o + 1))
              case measure => omega
              case rel => exact ⟨o + 1, acc ++ [o0], by omega, by omega, by go_num, by simp; omega, HR1', HA2, HB1', HM3⟩
        · have hloz : ¬ (o : Int) < (v2.length : Int) := by omega
          have hlod : decide (o < v2.length) = false := decide_eq_false hlo
          have HA1 : Aside0 (outcM op (l2.drop (m + 1)) acc = R) := ⟨by
            have := HA.out; rw [List.drop_of_length_le (by omega : v2.length ≤ o)] at this
            rw [← this]; unfold outcI; congr 1; split <;> rfl⟩
          have HAL := Lib.hid (show acc.length ≤ (m + 1) * 1000 by rw [Nat.add_mul]; omega)
          clear HA
          go_wp2
          go_roundg (l2.length - (m + 1))
          case measure => omega
          case rel => exact ⟨m + 1, acc, by omega, by omega, by go_num, HAL.out, HR, HA1, BQ⟩
    · have hlmz : ¬ (m : Int) < (l2.length : Int) := by omega
      have hlmd : decide (m < l2.length) = false := decide_eq_false hlm
      obtain ⟨Ao, co, rfl, hco, hCo⟩ := Kd.R_reads HR.out
      have HCo := Aside0.mk hCo; clear hCo
      have HA1 : acc = R := by
        have := HA.out; rw [List.drop_of_length_le (by omega : l2.length ≤ m)] at this; exact this
      subst HA1
      go_wp2
      go_ret
      exact ⟨_, rfl, ⟨_, _, rfl, hco, HCo.out⟩, BW.out⟩
end Go.Proofs.Ytkgcfgoaabkcpaa.Pa
