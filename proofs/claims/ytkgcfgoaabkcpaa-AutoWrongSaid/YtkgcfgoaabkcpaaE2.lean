import Derived.Test.YtkgcfgoaabkcpaaE1e
import Derived.Test.YtkgcfgoaabkcpaaPa9
namespace Go.Proofs.Ytkgcfgoaabkcpaa.Pa
open Go.RowKit Go.Proofs.YtkgcfgoaabkcpaaW.PrintWords Go.Proofs.YtkgcfgoaabkcpaaW.PrintLast Go.Proofs.YtkgcfgoaabkcpaaW.PrintMore
set_option linter.unusedVariables false
set_option linter.unusedSimpArgs false

/-! ### The answer -/
def endsO (l1 : List S62) : List S42 → List Int → Option (List Int)
  | [], nx => some nx
  | o :: os, nx => if (rd_T62 l1 o.f1).f1 = true then none else endsO l1 os (if nx.contains o.f1 then nx else nx ++ [o.f1])
def endsM (l1 : List S62) (s : Int) : List S39 → List Int → Option (List Int)
  | [], nx => some nx
  | m :: ms, nx => if m.f1 = s then (endsO l1 m.f2 nx).bind (endsM l1 s ms) else endsM l1 s ms nx
def endsI (l1 : List S62) (l2 : List S39) : List Int → List Int → Option (List Int)
  | [], nx => some nx
  | s :: ss, nx => (endsM l1 s l2 nx).bind (endsI l1 l2 ss)
def endsK (l1 : List S62) (l2 : List S39) : Nat → List Int → Bool
  | 0, _ => false
  | k + 1, set => match endsI l1 l2 set set with
    | none => true
    | some nx => endsK l1 l2 k nx

/-! ### has -/
theorem has_f (l : List Int) (a : Int) (hl : l.length ≤ 4611686018427387904) : ∀ (d k : Nat) (i : Nat), i + d = l.length → d < k → ballcockref09_has.l0 k l a i = some ((l.drop i).contains a) := by
  intro d
  induction d with
  | zero =>
    intro k i hi hk
    obtain ⟨k, rfl⟩ : ∃ m, k = m + 1 := ⟨k - 1, by omega⟩
    simp only [ballcockref09_has.l0]
    rw [if_neg (by omega), List.drop_of_length_le (by omega)]; rfl
  | succ d ih =>
    intro k i hi hk
    obtain ⟨k, rfl⟩ : ∃ m, k = m + 1 := ⟨k - 1, by omega⟩
    simp only [ballcockref09_has.l0]
    have hlt : i < l.length := by omega
    rw [if_pos (by omega), if_pos (by omega), List.drop_eq_getElem_cons hlt, List.contains_cons]
    have hrd : rd l (i : Int) = l[i] := by unfold rd; simp [List.getD_eq_getElem?_getD, hlt]
    rw [hrd]
    by_cases h : l[i] = a
    · rw [if_pos h]; simp [h]
    · rw [if_neg h]
      have hw : wrap64 ((i : Int) + 1) = ((i + 1 : Nat) : Int) := by unfold wrap64; omega
      rw [hw, ih k (i + 1) (by omega) (by omega)]
      have : (a == l[i]) = false := by simpa using fun e => h e.symm
      rw [this, Bool.false_or]
theorem has_run (A0 : Option Addr) (c0 : Nat) (l0 : List Int) (a1 : Int) (w : World) (hr0 : Kd.C (Kd.int .i64) w A0 l0.length l0) (hc0 : l0.length ≤ c0) (hl : l0.length ≤ 4611686018427387904) :
    Calls Try.prog 93 #[.slice A0 l0.length c0, .int .i64 a1] w fun e w' => e = .returned (.bool (l0.contains a1)) ∧ Drawn0 w w' := by
  have h := has_f l0 a1 hl l0.length (l0.length + 1) 0 (by omega) (by omega)
  exact ballcockref09_has.calls (l0.length + 1) A0 c0 l0 a1 (l0.contains a1) w hr0 hc0 h

theorem getD_mem {α : Type} {l : List α} {i : Nat} {d : α} (h : i < l.length) : l.getD i d ∈ l := by simp [List.getD_eq_getElem?_getD, h]
theorem getD_drop {α : Type} {l : List α} {i : Nat} {d : α} (h : i < l.length) : l.drop i = l.getD i d :: l.drop (i + 1) := by
  rw [List.drop_eq_getElem_cons h]; simp [List.getD_eq_getElem?_getD, h]
theorem rd39_mem {l : List S39} {i : Nat} (h : i < l.length) : rd_T39 l i ∈ l := getD_mem h
theorem rd42_mem {l : List S42} {i : Nat} (h : i < l.length) : rd_T42 l i ∈ l := getD_mem h
theorem drop39 {l : List S39} {i : Nat} (h : i < l.length) : l.drop i = rd_T39 l i :: l.drop (i + 1) := getD_drop h
theorem drop42 {l : List S42} {i : Nat} (h : i < l.length) : l.drop i = rd_T42 l i :: l.drop (i + 1) := getD_drop h
theorem dropI {l : List Int} {i : Nat} (h : i < l.length) : l.drop i = rd l i :: l.drop (i + 1) := getD_drop h
/-- A slice of ints that reads as a list. -/
def RdI (w : World) (v : Value) (xs : List Int) : Prop := ∃ A c, v = .slice A xs.length c ∧ xs.length ≤ c ∧ Kd.C (Kd.int .i64) w A xs.length xs
theorem RdI.below {w w' : World} {v : Value} {xs : List Int} (h : RdI w v xs) (hb : Below w.heap.size w w') : RdI w' v xs := by
  obtain ⟨A, c, e, hc, h⟩ := h
  exact ⟨A, c, e, hc, Kd.C_below h hb⟩
theorem int_empty (W : World) (base : Nat) (hb : base ≤ W.heap.size) : (Kd.int .i64).R 3 (W.alloc (.cells #[] 3)) base (fun _ => True) (.slice (some ⟨W.heap.size, 0, none⟩) 0 0) [] :=
  ⟨fun _ _ => trivial, OwnRow.lit (inner := []) (ps := []) W base (Reps.none _ _) hb (by simp)⟩
theorem R_RdI {W : World} {base : Nat} {ok : Nat → Prop} {v : Value} {xs : List Int} (h : (Kd.int .i64).R 3 W base ok v xs) : RdI W v xs := by
  obtain ⟨A, c, e, hc, h⟩ := Kd.R_reads h
  exact ⟨A, c, e, hc, h⟩
def contK (l1 : List S62) (l2 : List S39) (k : Nat) : Option (List Int) → Bool
  | none => true
  | some nx => endsK l1 l2 k nx
/-- All that outcomes lead to are states. -/
def InAll (l1 : List S62) (l2 : List S39) : Prop := ∀ m ∈ l2, ∀ o ∈ m.f2, 0 ≤ o.f1 ∧ o.f1 < l1.length
/-- A list of states, each once. -/
def Once (n : Nat) (xs : List Int) : Prop := xs.Nodup ∧ ∀ x ∈ xs, 0 ≤ x ∧ x < n

theorem nodup_len : ∀ (n : Nat) (xs : List Int), xs.Nodup → (∀ x ∈ xs, 0 ≤ x ∧ x < n) → xs.length ≤ n := by
  intro n
  induction n with
  | zero =>
    intro xs _ h
    cases xs with
    | nil => simp
    | cons x xs => have := h x List.mem_cons_self; omega
  | succ n ih =>
    intro xs hn h
    have h1 := ih (xs.erase (n : Int)) (hn.erase _) (fun x hx => by
      have hx' := (List.Nodup.mem_erase_iff hn).1 hx
      have := h x hx'.2
      have : x ≠ (n : Int) := hx'.1
      omega)
    have := List.length_erase (a := (n : Int)) (l := xs)
    split at this <;> omega
theorem once_len {n : Nat} {xs : List Int} (h : Once n xs) : xs.length ≤ n := nodup_len n xs h.1 h.2
theorem once_snoc {n : Nat} {xs : List Int} {x : Int} (h : Once n xs) (hx : x ∉ xs) (h0 : 0 ≤ x) (h1 : x < n) : Once n (xs ++ [x]) := by
  refine ⟨List.nodup_append.2 ⟨h.1, by simp, ?_⟩, fun y hy => ?_⟩
  · intro a ha b hb e
    simp at hb; subst hb; subst e; exact hx ha
  · rcases List.mem_append.1 hy with hy | hy
    · exact h.2 y hy
    · simp at hy; subst hy; exact ⟨h0, h1⟩

set_option maxHeartbeats 8000000 in
set_option maxRecDepth 100000 in
theorem Ends_walk (a0_0 : ByteArray) (A0_1 : Option Addr) (c0_1 : Nat) (l1 : List S62) (A0_2 : Option Addr) (c0_2 : Nat) (l2 : List S39) (at0 : Nat) (steps : Nat) (w : World)
    (hr1 : Kd.C k62 w A0_1 l1.length l1) (hc1 : l1.length ≤ c0_1) (hr2 : Kd.C k39 w A0_2 l2.length l2) (hc2 : l2.length ≤ c0_2) (hat : at0 < l1.length) (hn : l1.length ≤ 16) (hs0 : 1 ≤ steps) (hs : steps ≤ 4611686018427387904) (hin : InAll l1 l2)
    (hfin : (rd_T62 l1 at0).f1 = false) :
    Calls Try.prog 55 #[.agg #[.string a0_0, .slice A0_1 l1.length c0_1, .slice A0_2 l2.length c0_2], .int .i64 at0, .int .i64 steps] w fun e w' => e = .returned (.bool (endsK l1 l2 steps [(at0 : Int)])) ∧ Below w.heap.size w w' := by
  have HR1 := Lib.hid hr1
  have HR2 := Lib.hid hr2
  have HIN := Lib.hid hin; clear hin
  have hatz : (at0 : Int) < (l1.length : Int) := by omega
  have hs0' : ((steps : Int) == 0) = false := beq_eq_false_iff_ne.mpr (by omega)
  obtain ⟨ad1, e1, x0, x1⟩ := at_T62 (Kd.C_alloc hr1 (.cells #[.string a0_0, .slice A0_1 l1.length c0_1, .slice A0_2 l2.length c0_2] 25)) at0 (by omega) hatz
  simp only [Int.toNat_natCast] at x0 x1
  rw [hfin] at x1
  cases e1
  clear hr1 hr2 hfin
  obtain ⟨R, hR⟩ : ∃ R, R = endsK l1 l2 steps [(at0 : Int)] := ⟨_, rfl⟩
  rw [← hR]
  have HRR := Lib.hid hR; clear hR
  obtain ⟨W0, hW0⟩ : ∃ W0, W0 = w.alloc (.cells #[.string a0_0, .slice (some ad1) l1.length c0_1, .slice A0_2 l2.length c0_2] 25) := ⟨_, rfl⟩
  have hbw : Below w.heap.size w W0 := by rw [hW0]; exact (Below.refl w.heap.size w).alloc (Nat.le_refl _) _
  have hsz : w.heap.size < W0.heap.size := by rw [hW0]; simp
  have F1 := Lib.hid (show W0.cell? ⟨w.heap.size, 1, none⟩ = some (.slice (some ad1) l1.length c0_1) by rw [hW0, World.cell?_alloc_at _ _ _ _ rfl]; rfl)
  have F2 := Lib.hid (show W0.cell? ⟨w.heap.size, 2, none⟩ = some (.slice A0_2 l2.length c0_2) by rw [hW0, World.cell?_alloc_at _ _ _ _ rfl]; rfl)
  have G1 := Lib.hid (Kd.C_below HR1.out hbw)
  have G2 := Lib.hid (Kd.C_below HR2.out hbw)
  have HB1 : Aside0 (Below W0.heap.size W0 (W0.alloc (.cells #[.int .i64 at0] 3))) := ⟨(Below.refl _ W0).alloc (Nat.le_refl _) _⟩
  have HS : Aside0 (RdI (W0.alloc (.cells #[.int .i64 at0] 3)) (.slice (some ⟨W0.heap.size, 0, none⟩) 1 1) [(at0 : Int)]) := by
    have h := OwnRow.lit (R := (Kd.int .i64).M W0 W0.heap.size (fun k => True ∧ some k ≠ (Value.slice (some ⟨W0.heap.size, 0, none⟩) 1 1).ownBlock)) (e := 3) (size := 1) (ps := [(at0 : Int)]) (inner := [.int .i64 at0]) W0 W0.heap.size ⟨rfl, fun j p hj => by cases j with | zero => cases hj; exact rfl | succ j => simp at hj⟩ (Nat.le_refl _) (by simp)
    exact ⟨R_RdI (ok := fun _ => True) ⟨fun _ _ => trivial, h⟩⟩
  have HO : Aside0 (Once l1.length [(at0 : Int)]) := ⟨by simp, fun x hx => by simp at hx; omega⟩
  clear HR1 HR2
  go_enter Try.func55, Try.ntmps55
  go_wp2
  have hwsz : w.heap.size + 1 = W0.heap.size := by rw [hW0]; simp
  rw [hwsz]
  rw [← hW0]
  clear hwsz
  clear hW0 x0 x1
  go_loopg [7, 8] steps (fun gg s7 s8 wr => ∃ (k : Nat) (set : List Int), k ≤ steps ∧ steps - k ≤ gg ∧ s8 = .int .i64 k ∧ Aside0 (RdI wr s7 set) ∧ Aside0 (Once l1.length set) ∧ Aside0 (endsK l1 l2 (steps - k) set = R) ∧ Aside0 (Below W0.heap.size W0 wr))
  case atStart => exact ⟨0, [(at0 : Int)], Nat.zero_le _, by omega, rfl, HS, HO, ⟨HRR.out.symm⟩, HB1⟩
  case round =>
    clear HS HO HB1 HRR
    obtain ⟨k, set, hk, hg, rfl, HSET, HON, HA, BW⟩ := hrel
    obtain ⟨As, cs, rfl, hcs, hset⟩ := HSET.out
    clear HSET
    have HSET := Lib.hid hset; clear hset
    by_cases hlt : k < steps
    · have hltz : (k : Int) < (steps : Int) := by omega
      obtain ⟨wo, rfl⟩ : ∃ wo : World, wo = wr := ⟨_, rfl⟩
      have HA0 : Aside0 (contK l1 l2 (steps - k - 1) (endsI l1 l2 (set.drop 0) set) = R) := ⟨by
        have := HA.out
        rw [show steps - k = (steps - k - 1) + 1 by omega] at this
        rw [List.drop_zero, ← this]
        simp only [endsK, contK]⟩
      have hsl := Kd.C_max HSET.out
      clear HA
      go_wp2
      go_loopg [9, 10] set.length (fun gi s9 s10 wi => ∃ (i : Nat) (nx : List Int), i ≤ set.length ∧ set.length - i ≤ gi ∧ s10 = .int .i64 i ∧ Aside0 (RdI wi s9 nx) ∧ Aside0 (Once l1.length nx) ∧ Aside0 (contK l1 l2 (steps - k - 1) (endsI l1 l2 (set.drop i) nx) = R) ∧ Aside0 (Below W0.heap.size W0 wi) ∧ Aside0 (Kd.C (Kd.int .i64) wi As set.length set))
      case atStart => exact ⟨0, set, Nat.zero_le _, by omega, rfl, ⟨⟨_, _, rfl, hcs, HSET.out⟩⟩, HON, HA0, BW, ⟨HSET.out⟩⟩
      case round =>
        clear HSET HON HA0 BW
        obtain ⟨i, nx, hi, hgi, rfl, HNX, HON, HA, BW, HSET⟩ := hrel
        obtain ⟨An, cn, rfl, hcn, hnx⟩ := HNX.out
        clear HNX
        have HNX := Aside0.mk hnx; clear hnx
        by_cases hli : i < set.length
        · have hliz : (i : Int) < (set.length : Int) := by omega
          obtain ⟨wo2, rfl⟩ : ∃ wo2 : World, wo2 = wr := ⟨_, rfl⟩
          have hlid : decide (i < set.length) = true := decide_eq_true hli
          obtain ⟨adi, ei, hxi⟩ := Kd.at_int HSET.out i (by omega) hliz
          have hgeti := dropI hli
          rw [Int.toNat_natCast] at hxi
          cases ei
          have HA1 : Aside0 (contK l1 l2 (steps - k - 1) ((endsM l1 (rd set i) (l2.drop 0) nx).bind (endsI l1 l2 (set.drop (i + 1)))) = R) := ⟨by
            have := HA.out; rw [hgeti] at this; exact this⟩
          clear HA hgeti
          have HXI := Lib.hid hxi; clear hxi
          have hml := Kd.C_max G2.out
          go_wp2
          go_loopg [9, 11] l2.length (fun gm s9 s11 wm => ∃ (m : Nat) (nx : List Int), m ≤ l2.length ∧ l2.length - m ≤ gm ∧ s11 = .int .i64 m ∧ Aside0 (RdI wm s9 nx) ∧ Aside0 (Once l1.length nx) ∧ Aside0 (contK l1 l2 (steps - k - 1) ((endsM l1 (rd set i) (l2.drop m) nx).bind (endsI l1 l2 (set.drop (i + 1)))) = R) ∧ Aside0 (Below W0.heap.size W0 wm) ∧ Aside0 (Kd.C (Kd.int .i64) wm (some adi) set.length set))
          case atStart => exact ⟨0, nx, Nat.zero_le _, by omega, rfl, ⟨⟨_, _, rfl, hcn, HNX.out⟩⟩, HON, HA1, BW, HSET⟩
          case round =>
            clear HNX HON HA1 BW HSET HXI
            obtain ⟨m, nx, hm, hgm, rfl, HNX, HON, HA, BW, HSET⟩ := hrel
            obtain ⟨An, cn, rfl, hcn, hnx⟩ := HNX.out
            clear HNX
            have HNX := Aside0.mk hnx; clear hnx
            have f2 := (BW.out.cell (p := ⟨w.heap.size, 2, none⟩) hsz).trans F2.out
            by_cases hlm : m < l2.length
            · have hlmz : (m : Int) < (l2.length : Int) := by omega
              have hlmd : decide (m < l2.length) = true := decide_eq_true hlm
              obtain ⟨wo3, rfl⟩ : ∃ wo3 : World, wo3 = wr := ⟨_, rfl⟩
              obtain ⟨adm, Am, cm, em, hm0, hm1, hm2, hmc, hmo⟩ := at_T39 (Kd.C_below G2.out BW.out) m (by omega) hlmz
              obtain ⟨adi', ei', hxi⟩ := Kd.at_int HSET.out i (by omega) hliz
              cases ei'
              have hgetm := drop39 hlm
              have hmem := rd39_mem hlm
              have HIM := Lib.hid (HIN.out _ hmem); clear hmem
              have HA1 := HA.out
              rw [hgetm] at HA1
              clear hgetm HA
              generalize hmv : rd_T39 l2 m = mv at *
              obtain ⟨v0, v1, v2⟩ := mv
              have HMV := Lib.hid hmv; clear hmv
              simp only at *
              rw [Int.toNat_natCast] at hxi
              simp only [Int.toNat_natCast] at hm0 hm1 hm2
              cases em
              by_cases hv : v1 = rd set i
              · have hv' : (v1 != rd set i) = false := bne_eq_false_iff_eq.mpr hv
                have HA2 : Aside0 (contK l1 l2 (steps - k - 1) (((endsO l1 (v2.drop 0) nx).bind (endsM l1 (rd set i) (l2.drop (m + 1)))).bind (endsI l1 l2 (set.drop (i + 1)))) = R) := ⟨by
                  rw [endsM, if_pos hv] at HA1; exact HA1⟩
                have hol := Kd.C_max hmo
                have HMO := Aside0.mk hmo; clear hmo
                clear HA1 hv
                go_wp2
                go_quiet (fail)
                go_wp2
                go_loopg [9, 12] v2.length (fun go s9 s12 wq => ∃ (o : Nat) (nx : List Int), o ≤ v2.length ∧ v2.length - o ≤ go ∧ s12 = .int .i64 o ∧ Aside0 (RdI wq s9 nx) ∧ Aside0 (Once l1.length nx) ∧ Aside0 (contK l1 l2 (steps - k - 1) (((endsO l1 (v2.drop o) nx).bind (endsM l1 (rd set i) (l2.drop (m + 1)))).bind (endsI l1 l2 (set.drop (i + 1)))) = R) ∧ Aside0 (Below W0.heap.size W0 wq) ∧ Aside0 (Kd.C (Kd.int .i64) wq (some adi) set.length set))
                case atStart => exact ⟨0, nx, Nat.zero_le _, by omega, rfl, ⟨⟨_, _, rfl, hcn, Kd.C_drewN HNX.out _⟩⟩, HON, HA2, ⟨bch BW.out (pw_below_drewN (Below.refl _ _) _)⟩, ⟨Kd.C_drewN HSET.out _⟩⟩
                case round =>
                  clear HNX HON HA2 BW HSET hxi hm0 hm1 hm2 f2 HMO
                  obtain ⟨o, nx, ho, hgo, rfl, HNX, HON, HA, BW, HSET⟩ := hrel
                  obtain ⟨An, cn, rfl, hcn, hnx⟩ := HNX.out
                  clear HNX
                  have f1 := (BW.out.cell (p := ⟨w.heap.size, 1, none⟩) hsz).trans F1.out
                  have f2 := (BW.out.cell (p := ⟨w.heap.size, 2, none⟩) hsz).trans F2.out
                  obtain ⟨adm', Am', cm', em', hm0, hm1, hm2, hmc', hmo⟩ := at_T39 (Kd.C_below G2.out BW.out) m (by omega) hlmz
                  rw [HMV.out] at hm0 hm1 hm2 hmc' hmo
                  simp only at hm0 hm1 hm2 hmc' hmo
                  cases em'
                  simp only [Int.toNat_natCast] at hm0 hm1 hm2
                  have HNX := Aside0.mk hnx; clear hnx
                  by_cases hlo : o < v2.length
                  · have hloz : (o : Int) < (v2.length : Int) := by omega
                    have hlod : decide (o < v2.length) = true := decide_eq_true hlo
                    obtain ⟨ado, eo, ho0, ho1⟩ := at_T42 hmo o (by omega) hloz
                    have hgeto := drop42 hlo
                    have hto := HIM.out _ (rd42_mem hlo)
                    have HA1 := HA.out
                    rw [hgeto] at HA1
                    clear hgeto HA hmo
                    generalize rd_T42 v2 o = ov at *
                    obtain ⟨o0, tq⟩ := ov
                    simp only at *
                    cases eo
                    simp only [Int.toNat_natCast] at ho0 ho1
                    obtain ⟨ht0, ht1⟩ := hto
                    obtain ⟨ad1', e1', hs0, hs1⟩ := at_T62 (Kd.C_below G1.out BW.out) tq ht0 ht1
                    cases e1'
                    obtain ⟨wo4, rfl⟩ : ∃ wo4 : World, wo4 = wr := ⟨_, rfl⟩
                    cases hfin : (rd_T62 l1 tq).f1 with
                    | true =>
                      rw [hfin] at hs1
                      have HRT := Lib.hid (show true = R by rw [endsO, if_pos hfin] at HA1; exact HA1)
                      clear HA1 hfin
                      go_wp2
                      go_ret
                      exact ⟨ret_b HRT.out, bch hbw BW.out⟩
                    | false =>
                      rw [hfin] at hs1
                      rw [endsO, if_neg (by rw [hfin]; simp)] at HA1
                      have HA2 := Aside0.mk HA1
                      clear HA1 hfin
                      have hcall := has_run An cn nx tq wo4 HNX.out hcn (by have := once_len HON.out; omega)
                      cases hcon : nx.contains tq with
                      | true =>
                        rw [hcon] at hcall HA2
                        go_wp2_with fail
                        refine hcall.mono ?_
                        rintro e w5 ⟨rfl, ⟨nq, rfl⟩⟩
                        go_wp2
                        go_roundg (v2.length - (o + 1))
                        case measure => omega
                        case rel => exact ⟨o + 1, nx, by omega, by omega, by go_num, ⟨⟨_, _, rfl, hcn, Kd.C_drewN HNX.out _⟩⟩, HON, HA2, ⟨bch BW.out (pw_below_drewN (Below.refl _ _) _)⟩, ⟨Kd.C_drewN HSET.out _⟩⟩
                      | false =>
                        rw [hcon] at hcall HA2
                        go_wp2_with fail
                        refine hcall.mono ?_
                        rintro e w5 ⟨rfl, ⟨nq, rfl⟩⟩
                        have HEm := Aside0.mk (int_empty (wo4.drewN nq) wo4.heap.size (by simp))
                        have HNX2 := Aside0.mk (Kd.C_alloc (Kd.C_drewN HNX.out nq) (.cells #[] 3))
                        have HB2 := Aside0.mk ((pw_below_drewN (Below.refl wo4.heap.size wo4) nq).trans ((Below.refl _ _).alloc (by simp) (.cells #[] 3)))
                        have hnl := once_len HON.out
                        have HONx := Aside0.mk (once_snoc HON.out (by simpa using hcon) ht0 ht1)
                        have tok1 : True := trivial
                        go_wp2_with (first | (at_builtin; have _t := tok1; refine Kd.R_append_rows (Kd.int .i64) (w0 := wo4) wo4.heap.size rfl _ _ 73 3 (.int .i64 0) 8 rfl Try.underlying73 info3 rfl (by decide) (by decide) _ [] nx An nx.length cn (fun _ => True) (fun _ => False) rfl rfl HEm.out HNX2.out (fun _ _ h => h) (fun _ h => h.elim) (fun _ _ => trivial) HB2.out (by simp) (by simp; omega) ?_; intro v1 w1 hR1 hB1 hg1 _hat1; have HR1' := Aside0.mk hR1; have HB1' := Aside0.mk hB1; have hbs := hB1.size; clear hR1 hB1 hg1 _hat1 tok1) | (at_builtin; refine Kd.R_append (Kd.int .i64) (w0 := wo4) wo4.heap.size rfl _ _ 73 3 (.int .i64 0) 8 rfl Try.underlying73 info3 rfl (by decide) (by decide) v1 ([] ++ nx) tq [.int .i64 tq] (fun _ => True) (fun _ => False) rfl rfl rfl (fun _ h => h.elim) (fun _ _ => trivial) HR1'.out HB1'.out hbs (by simp; omega) ?_; intro v2' w2 hR2 hB2 hg2 _hat2; have HR2' := Aside0.mk (R_RdI hR2); have HB2' := Aside0.mk hB2; clear hR2 hB2 hg2 _hat2))
                        go_roundg (v2.length - (o + 1))
                        case measure => omega
                        case rel => exact ⟨o + 1, nx ++ [tq], by omega, by omega, by go_num, HR2', HONx, HA2, ⟨bch BW.out HB2'.out⟩, ⟨Kd.C_below HSET.out HB2'.out⟩⟩
                  · have hloz : ¬ (o : Int) < (v2.length : Int) := by omega
                    have hlod : decide (o < v2.length) = false := decide_eq_false hlo
                    have HA1 : Aside0 (contK l1 l2 (steps - k - 1) ((endsM l1 (rd set i) (l2.drop (m + 1)) nx).bind (endsI l1 l2 (set.drop (i + 1)))) = R) := ⟨by
                      have := HA.out; rw [List.drop_of_length_le (by omega : v2.length ≤ o)] at this; exact this⟩
                    clear HA hmo
                    go_wp2
                    go_roundg (l2.length - (m + 1))
                    case measure => omega
                    case rel => exact ⟨m + 1, nx, by omega, by omega, by go_num, ⟨⟨_, _, rfl, hcn, HNX.out⟩⟩, HON, HA1, BW, HSET⟩
              · have hv' : (v1 != rd set i) = true := bne_iff_ne.mpr hv
                have HA2 : Aside0 (contK l1 l2 (steps - k - 1) ((endsM l1 (rd set i) (l2.drop (m + 1)) nx).bind (endsI l1 l2 (set.drop (i + 1)))) = R) := ⟨by
                  rw [endsM, if_neg hv] at HA1; exact HA1⟩
                clear HA1 hv
                go_wp2
                go_quiet (fail)
                go_wp2
                go_roundg (l2.length - (m + 1))
                case measure => omega
                case rel => exact ⟨m + 1, nx, by omega, by omega, by go_num, ⟨⟨_, _, rfl, hcn, Kd.C_drewN HNX.out _⟩⟩, HON, HA2, ⟨bch BW.out (pw_below_drewN (Below.refl _ _) _)⟩, ⟨Kd.C_drewN HSET.out _⟩⟩
            · have hlmz : ¬ (m : Int) < (l2.length : Int) := by omega
              have hlmd : decide (m < l2.length) = false := decide_eq_false hlm
              have HA1 : Aside0 (contK l1 l2 (steps - k - 1) (endsI l1 l2 (set.drop (i + 1)) nx) = R) := ⟨by
                have := HA.out; rw [List.drop_of_length_le (by omega : l2.length ≤ m)] at this; exact this⟩
              clear HA
              go_wp2
              go_roundg (set.length - (i + 1))
              case measure => omega
              case rel => exact ⟨i + 1, nx, by omega, by omega, by go_num, ⟨⟨_, _, rfl, hcn, HNX.out⟩⟩, HON, HA1, BW, HSET⟩
        · have hliz : ¬ (i : Int) < (set.length : Int) := by omega
          have hlid : decide (i < set.length) = false := decide_eq_false hli
          have HA1 : Aside0 (endsK l1 l2 (steps - (k + 1)) nx = R) := ⟨by
            have := HA.out; rw [List.drop_of_length_le (by omega : set.length ≤ i)] at this; exact this⟩
          clear HA
          go_wp2
          go_roundg (steps - (k + 1))
          case measure => omega
          case rel => exact ⟨k + 1, nx, by omega, by omega, by go_num, ⟨⟨_, _, rfl, hcn, HNX.out⟩⟩, HON, HA1, BW⟩
    · have hltz : ¬ (k : Int) < (steps : Int) := by omega
      go_wp2
      go_ret
      refine ⟨ret_b ?_, bch hbw BW.out⟩
      have := HA.out
      rw [show steps - k = 0 by omega] at this
      rw [← this]; rfl

instance (l1 : List S62) (l2 : List S39) : Decidable (InAll l1 l2) := by unfold InAll; infer_instance

/-- Ends, as the print's callers take it. -/
def ballcockref09_Ends.f (a0_0 : ByteArray) (l0_1 : List S62) (l0_2 : List S39) (a1 : Int) (a2 : Int) : Option Bool :=
  if 0 ≤ a1 ∧ a1 < l0_1.length ∧ l0_1.length ≤ 16 ∧ 1 ≤ a2 ∧ a2 ≤ 4611686018427387904 ∧ InAll l0_1 l0_2 then some (if (rd_T62 l0_1 a1).f1 = true then true else endsK l0_1 l0_2 a2.toNat [a1]) else none
set_option maxHeartbeats 1000000 in
theorem ballcockref09_Ends.calls (a0_0 : ByteArray) (A0_1 : Option Addr) (c0_1 : Nat) (l0_1 : List (S62)) (A0_2 : Option Addr) (c0_2 : Nat) (l0_2 : List (S39)) (a1 : Int) (a2 : Int) (r : Bool) (w : World) (hr0_1 : Kd.C k62 w A0_1 l0_1.length l0_1) (hc0_1 : l0_1.length ≤ c0_1) (hr0_2 : Kd.C k39 w A0_2 l0_2.length l0_2) (hc0_2 : l0_2.length ≤ c0_2) (h : ballcockref09_Ends.f a0_0 l0_1 l0_2 a1 a2 = some r) :
    Calls Try.prog 55 #[.agg #[.string a0_0, .slice A0_1 l0_1.length c0_1, .slice A0_2 l0_2.length c0_2], .int .i64 a1, .int .i64 a2] w fun e w' => e = .returned (.bool r) ∧ Below w.heap.size w w' := by
  unfold ballcockref09_Ends.f at h
  by_cases h1 : 0 ≤ a1 ∧ a1 < l0_1.length ∧ l0_1.length ≤ 16 ∧ 1 ≤ a2 ∧ a2 ≤ 4611686018427387904 ∧ InAll l0_1 l0_2
  · rw [if_pos h1] at h
    obtain rfl := Option.some.inj h
    obtain ⟨p1, p2, p3, p4, p5, p6⟩ := h1
    obtain ⟨i, rfl⟩ := Int.eq_ofNat_of_zero_le p1
    obtain ⟨s, rfl⟩ := Int.eq_ofNat_of_zero_le (by omega : 0 ≤ a2)
    rw [Int.toNat_natCast]
    cases hf : (rd_T62 l0_1 i).f1 with
    | true =>
      rw [if_pos rfl]
      have hiz : (i : Int) < (l0_1.length : Int) := p2
      obtain ⟨ad1, e1, x0, x1⟩ := at_T62 (Kd.C_alloc hr0_1 (.cells #[.string a0_0, .slice A0_1 l0_1.length c0_1, .slice A0_2 l0_2.length c0_2] 25)) i (by omega) hiz
      simp only [Int.toNat_natCast] at x0 x1
      rw [hf] at x1
      cases e1
      have hb := (Below.refl w.heap.size w).alloc (Nat.le_refl _) (.cells #[.string a0_0, .slice (some ad1) l0_1.length c0_1, .slice A0_2 l0_2.length c0_2] 25)
      clear hr0_1 hr0_2 h p6 hf
      go_enter Try.func55, Try.ntmps55
      go_wp2
      go_ret
      exact ⟨rfl, hb⟩
    | false =>
      rw [if_neg (by simp)]
      exact Ends_walk a0_0 A0_1 c0_1 l0_1 A0_2 c0_2 l0_2 i s w hr0_1 hc0_1 hr0_2 hc0_2 (by omega) p3 (by omega) (by omega) p6 hf
  · rw [if_neg h1] at h
    cases h
end Go.Proofs.Ytkgcfgoaabkcpaa.Pa
