import Derived.Test.YtkgcfgoaabkcpaaB7x

/-! ## part F1 -/
namespace Go.Proofs.Ytkgcfgoaabkcpaa.Pa
open Go.RowKit Go.Proofs.YtkgcfgoaabkcpaaW.PrintWords Go.Proofs.YtkgcfgoaabkcpaaW.PrintLast Go.Proofs.YtkgcfgoaabkcpaaW.PrintMore
set_option linter.unusedVariables false
set_option linter.unusedSimpArgs false

/-- All that moves name are states, of which there are not more than sixteen. -/
def In16 (l2 : List S39) : Prop := ∀ m ∈ l2, (0 ≤ m.f1 ∧ m.f1 < 16) ∧ ∀ o ∈ m.f2, 0 ≤ o.f1 ∧ o.f1 < 16
def stepO (nm : ByteArray) : List S42 → Nat → Nat
  | [], s => s
  | o :: os, s => stepO nm os (if (o.f0.toList == nm.toList) = true then s ||| 2 ^ o.f1.toNat else s)
def stepM (S : Nat) (op nm : ByteArray) : List S39 → Nat → Nat
  | [], s => s
  | m :: ms, s => stepM S op nm ms (if (m.f0.toList == op.toList) = true ∧ S.testBit m.f1.toNat = true then stepO nm m.f2 s else s)
theorem stepO_lt (nm : ByteArray) : ∀ (os : List S42) (s : Nat), (∀ o ∈ os, 0 ≤ o.f1 ∧ o.f1 < 16) → s < 2 ^ 32 → stepO nm os s < 2 ^ 32
  | [], s, _, h => h
  | o :: os, s, ho, h => by
    unfold stepO
    refine stepO_lt nm os _ (fun x hx => ho x (List.mem_cons_of_mem _ hx)) ?_
    have := ho o List.mem_cons_self
    split
    · exact or_lt s _ h (by omega)
    · exact h
/-- What the machine's shifts need to know of a state's number. -/
theorem shr_facts (S : Int) (v : Int) (h0 : 0 ≤ v) (h1 : v < 16) : ∃ J, J = shr .u32 S v ∧ S / 2 ^ min v.toNat 32 = J ∧ S / 2 ^ v.toNat = J :=
  ⟨_, rfl, rfl, by unfold shr; rw [show min v.toNat IntKind.u32.bits = v.toNat by simp [IntKind.bits]; omega]⟩
theorem shl_facts (v : Int) (h0 : 0 ≤ v) (h1 : v < 16) : ∃ J : Int, J = shl .u32 1 v ∧ IntKind.u32.wrap (1 * 2 ^ min v.toNat 32) = J ∧ IntKind.u32.wrap (1 * 2 ^ v.toNat) = J ∧ IntKind.u32.wrap (2 ^ min v.toNat 32) = J ∧ IntKind.u32.wrap (2 ^ v.toNat) = J := by
  have h : min v.toNat IntKind.u32.bits = v.toNat := by simp [IntKind.bits]; omega
  have h2 : min v.toNat 32 = v.toNat := by omega
  refine ⟨_, rfl, rfl, ?_, ?_, ?_⟩ <;> unfold shl <;> simp only [h, h2, Int.one_mul]
theorem bit_eq (S : Nat) (v : Int) (hS : S < 2 ^ 32) (h0 : 0 ≤ v) (h1 : v < 16) : Go.bits .and .u32 (shr .u32 (S : Int) v) 1 = if S.testBit v.toNat then 1 else 0 := by
  have := bit32 S v.toNat hS (by omega)
  rwa [Int.toNat_of_nonneg h0] at this
theorem or_eq (S : Nat) (v : Int) (hS : S < 2 ^ 32) (h0 : 0 ≤ v) (h1 : v < 16) : Go.bits .or .u32 (S : Int) (shl .u32 1 v) = ((S ||| 2 ^ v.toNat : Nat) : Int) := by
  have := orbit S v.toNat hS (by omega)
  rwa [Int.toNat_of_nonneg h0] at this

set_option maxHeartbeats 4000000 in
theorem Step_calls (g : Nat) (a0 : ByteArray) (l1 : List S62) (l2 : List S39) (S : Nat) (op nm : ByteArray) (w : World) (h : AutoAt w g a0 l1 l2) (hS : S < 2 ^ 32) (hin : In16 l2) :
    Calls Try.prog 19 #[.pointer (some ⟨g, 0, none⟩), .int .u32 S, .string op, .string nm] w fun e w' => e = .returned (.int .u32 (stepM S op nm l2 0 : Nat)) ∧ Below w.heap.size w w' := by
  obtain ⟨A1, c1, A2, c2, hh, k1, p1, k2, p2⟩ := h
  have f2 : w.cell? ⟨g, 2, none⟩ = some (.slice A2 l2.length c2) := by simp [World.cell?, hh]
  have HP := Lib.hid p2
  have HIN := Lib.hid hin
  obtain ⟨R, hR⟩ : ∃ R, R = stepM S op nm l2 0 := ⟨_, rfl⟩
  rw [← hR]
  have HA : Aside0 (stepM S op nm (l2.drop 0) 0 = R) := ⟨by rw [List.drop_zero, hR]⟩
  have hl2 := Kd.C_max p2
  clear hh p1 p2 hin hR
  go_enter Try.func19, Try.ntmps19
  go_wp2
  go_loopg [9, 20] l2.length (fun gm s9 s20 wm => ∃ (m s : Nat), m ≤ l2.length ∧ l2.length - m ≤ gm ∧ s20 = .int .i64 m ∧ s9 = .int .u32 s ∧ s < 2 ^ 32 ∧ Aside0 (stepM S op nm (l2.drop m) s = R) ∧ Aside0 (Below w.heap.size w wm))
  case atStart => exact ⟨0, 0, Nat.zero_le _, by omega, rfl, rfl, by decide, HA, ⟨Below.refl _ _⟩⟩
  case round =>
    clear HA
    obtain ⟨m, s, hm, hgm, rfl, rfl, hs, HA, BW⟩ := hrel
    by_cases hlm : m < l2.length
    · have hlmz : (m : Int) < (l2.length : Int) := by omega
      have hlmd : decide (m < l2.length) = true := decide_eq_true hlm
      obtain ⟨wo, rfl⟩ : ∃ wo : World, wo = wr := ⟨_, rfl⟩
      obtain ⟨adm, Am, cm, em, hm0, hm1, hm2, hmc, hmo⟩ := at_T39 (Kd.C_below HP.out BW.out) m (by omega) hlmz
      have hgetm := drop39 hlm
      obtain ⟨hv, HO⟩ := HIN.out _ (rd39_mem hlm)
      have HO := Lib.hid HO
      have HA1 := HA.out
      rw [hgetm] at HA1
      clear hgetm HA
      generalize rd_T39 l2 m = mv at *
      obtain ⟨v0, v1, v2⟩ := mv
      simp only at *
      simp only [Int.toNat_natCast] at hm0 hm1 hm2
      cases em
      obtain ⟨hv0, hv1⟩ := hv
      have hv0d : decide (0 ≤ v1) = true := decide_eq_true hv0
      have hol := Kd.C_max hmo
      have HMO := Lib.hid hmo; clear hmo
      cases hop : (v0.toList == op.toList) with
      | false =>
        have HA2 : Aside0 (stepM S op nm (l2.drop (m + 1)) s = R) := ⟨by
          rw [stepM, if_neg (by rw [hop]; simp)] at HA1; exact HA1⟩
        have hop' : (v0.toList != op.toList) = true := by simp [bne, hop]
        clear HA1
        go_wp2
        go_roundg (l2.length - (m + 1))
        case measure => omega
        case rel => exact ⟨m + 1, s, by omega, by omega, by go_num, rfl, hs, HA2, ⟨bch BW.out ((Below.refl _ _).alloc (Nat.le_refl _) _)⟩⟩
      | true =>
        have hop' : (v0.toList != op.toList) = false := by simp [bne, hop]
        obtain ⟨J, hJ, hj1, hj2⟩ := shr_facts S v1 hv0 hv1
        have hbit := bit_eq S v1 hS hv0 hv1
        rw [← hJ] at hbit
        clear hJ
        have hv0t := eq_true hv0
        cases hb : S.testBit v1.toNat with
        | false =>
          have hb1 : (Go.bits .and .u32 J 1 == 0) = true := by rw [hbit, hb]; rfl
          have HA2 : Aside0 (stepM S op nm (l2.drop (m + 1)) s = R) := ⟨by
            rw [stepM, if_neg (by rw [hb]; simp)] at HA1; exact HA1⟩
          clear HA1 hbit hb hv0 hv1
          go_wp2
          go_roundg (l2.length - (m + 1))
          case measure => omega
          case rel => exact ⟨m + 1, s, by omega, by omega, by go_num, rfl, hs, HA2, ⟨bch BW.out ((Below.refl _ _).alloc (Nat.le_refl _) _)⟩⟩
        | true =>
          have hb1 : (Go.bits .and .u32 J 1 == 0) = false := by rw [hbit, hb]; rfl
          have HA2 : Aside0 (stepM S op nm (l2.drop (m + 1)) (stepO nm (v2.drop 0) s) = R) := ⟨by
            rw [stepM, if_pos ⟨hop, hb⟩] at HA1; rw [List.drop_zero]; exact HA1⟩
          clear HA1 hbit hb hv0 hv1
          go_wp2
          go_loopg [9, 39] v2.length (fun go s9 s39 wq => ∃ (o s : Nat), o ≤ v2.length ∧ v2.length - o ≤ go ∧ s39 = .int .i64 o ∧ s9 = .int .u32 s ∧ s < 2 ^ 32 ∧ Aside0 (stepM S op nm (l2.drop (m + 1)) (stepO nm (v2.drop o) s) = R) ∧ Aside0 (Below wo.heap.size wo wq))
          case atStart => exact ⟨0, s, Nat.zero_le _, by omega, rfl, rfl, hs, HA2, ⟨(Below.refl _ _).alloc (Nat.le_refl _) _⟩⟩
          case round =>
            clear HA2 hm0 hm1 hm2 hj1 hj2 hb1 hs
            obtain ⟨o, s, ho, hgo, rfl, rfl, hs, HA, BQ⟩ := hrel
            by_cases hlo : o < v2.length
            · have hloz : (o : Int) < (v2.length : Int) := by omega
              have hlod : decide (o < v2.length) = true := decide_eq_true hlo
              obtain ⟨wo2, rfl⟩ : ∃ wo2 : World, wo2 = wr := ⟨_, rfl⟩
              obtain ⟨ado, eo, ho0, ho1⟩ := at_T42 (Kd.C_below HMO.out BQ.out) o (by omega) hloz
              have hgeto := drop42 hlo
              obtain ⟨ht0, ht1⟩ := HO.out _ (rd42_mem hlo)
              have HA1 := HA.out
              rw [hgeto] at HA1
              clear hgeto HA
              generalize rd_T42 v2 o = ov at *
              obtain ⟨o0, o1⟩ := ov
              simp only at *
              simp only [Int.toNat_natCast] at ho0 ho1
              cases eo
              rw [stepO] at HA1
              simp only at HA1
              cases hnm : (o0.toList == nm.toList) with
              | false =>
                rw [hnm, if_neg (by simp)] at HA1
                have HA2 := Aside0.mk HA1
                clear HA1
                go_wp2
                go_roundg (v2.length - (o + 1))
                case measure => omega
                case rel => exact ⟨o + 1, s, by omega, by omega, by go_num, rfl, hs, HA2, ⟨BQ.out.alloc BQ.out.size _⟩⟩
              | true =>
                rw [hnm, if_pos rfl] at HA1
                have HA2 := Aside0.mk HA1
                obtain ⟨K, hK, hk1, hk2, hk3, hk4⟩ := shl_facts o1 ht0 ht1
                have hor := or_eq s o1 hs ht0 ht1
                rw [← hK] at hor
                have ht0d : decide (0 ≤ o1) = true := decide_eq_true ht0
                have ht0t := eq_true ht0
                have HOR := Aside0.mk hor
                have hlt := Aside0.mk (or_lt s o1.toNat hs (by omega))
                clear HA1 hK hor ht0 ht1
                go_wp2
                go_roundg (v2.length - (o + 1))
                case measure => omega
                case rel => exact ⟨o + 1, s ||| 2 ^ o1.toNat, by omega, by omega, by go_num, by rw [HOR.out], hlt.out, HA2, ⟨BQ.out.alloc BQ.out.size _⟩⟩
            · have hloz : ¬ (o : Int) < (v2.length : Int) := by omega
              have hlod : decide (o < v2.length) = false := decide_eq_false hlo
              have HA1 : Aside0 (stepM S op nm (l2.drop (m + 1)) s = R) := ⟨by
                have := HA.out; rw [List.drop_of_length_le (by omega : v2.length ≤ o)] at this; exact this⟩
              clear HA
              go_wp2
              go_roundg (l2.length - (m + 1))
              case measure => omega
              case rel => exact ⟨m + 1, s, by omega, by omega, by go_num, rfl, hs, HA1, ⟨bch BW.out BQ.out⟩⟩
    · have hlmz : ¬ (m : Int) < (l2.length : Int) := by omega
      have hlmd : decide (m < l2.length) = false := decide_eq_false hlm
      have HA1 : s = R := by
        have := HA.out; rw [List.drop_of_length_le (by omega : l2.length ≤ m)] at this; exact this
      subst HA1
      go_wp2
      go_ret
      exact ⟨rfl, BW.out⟩
end Go.Proofs.Ytkgcfgoaabkcpaa.Pa


/-! ## part F2 -/
namespace Go.Proofs.Ytkgcfgoaabkcpaa.Pa
open Go.RowKit Go.Proofs.YtkgcfgoaabkcpaaW.PrintWords Go.Proofs.YtkgcfgoaabkcpaaW.PrintLast Go.Proofs.YtkgcfgoaabkcpaaW.PrintMore
set_option linter.unusedVariables false
set_option linter.unusedSimpArgs false

/-! ### What it means that nothing is wrong -/
theorem first_or (p : Nat → Bool) : ∀ n, (∀ j, j < n → p j = false) ∨ ∃ i, i < n ∧ p i = true ∧ ∀ j, j < i → p j = false
  | 0 => .inl (fun j hj => by omega)
  | n + 1 => by
    rcases first_or p n with h | ⟨i, h1, h2, h3⟩
    · cases hp : p n with
      | false => exact .inl (fun j hj => by rcases Nat.lt_succ_iff_lt_or_eq.1 hj with h4 | rfl; exact h j h4; exact hp)
      | true => exact .inr ⟨n, by omega, hp, h⟩
    · exact .inr ⟨i, by omega, h2, h3⟩
theorem idxR_neg {p : Nat → Bool} {n : Nat} (h : ¬ 0 ≤ idxP p (List.range n)) : ∀ j, j < n → p j = false := by
  rcases first_or p n with h1 | ⟨i, h1, h2, h3⟩
  · exact h1
  · rw [idxR_hit p n i h1 h2 h3] at h; exact absurd (Int.natCast_nonneg i) h

structure Right (l1 : List S62) (l2 : List S39) : Prop where
  pos : 1 ≤ l1.length
  few : l1.length ≤ 16
  names : ∀ i, i < l1.length → ∀ k, k < i → ((rd_T62 l1 k).f0.toList == (rd_T62 l1 i).f0.toList) = false
  fit : AllFit l1 l2
  once : ∀ i, i < l2.length → againB l2 i = false
  nofin : ∀ i, i < l2.length → (rd_T62 l1 (rd_T39 l2 i).f1).f1 = false
  ends : ∀ i, i < l1.length → ∃ q, reachN l1 l2 q i = true

theorem right_of {l1 : List S62} {l2 : List S39} (h : (wrongF l1 l2).1 = 0) : Right l1 l2 := by
  unfold wrongF at h
  by_cases hn : l1.length < 1 ∨ 16 < l1.length
  · rw [if_pos hn] at h; exact absurd h (by decide)
  · rw [if_neg hn] at h
    unfold wf1 at h
    by_cases h1 : 0 ≤ twiceF l1.length (fun i => (rd_T62 l1 i).f0)
    · rw [if_pos h1] at h; exact absurd h (by simp)
    · rw [if_neg h1] at h
      have n1 := idxR_neg h1
      simp only [wfFrom] at h
      by_cases h2 : 0 ≤ idxP (badK l1 l2 (4 - 2)) (List.range l2.length)
      · rw [if_pos h2] at h; exact absurd h (by simp)
      · rw [if_neg h2] at h
        by_cases h3 : 0 ≤ idxP (badK l1 l2 (4 - 1)) (List.range l2.length)
        · rw [if_pos h3] at h; exact absurd h (by simp)
        · rw [if_neg h3] at h
          by_cases h4 : 0 ≤ idxP (badK l1 l2 (4 - 0)) (List.range l2.length)
          · rw [if_pos h4] at h; exact absurd h (by simp)
          · rw [if_neg h4] at h
            unfold wf5 at h
            by_cases h5 : 0 ≤ idxP (fun i => !endsB l1 l2 i) (List.range l1.length)
            · rw [if_pos h5] at h; exact absurd h (by simp)
            · have hfit : AllFit l1 l2 := fun i hi => by
                have := idxR_neg h2 i hi
                simpa [badK] using this
              refine ⟨by omega, by omega, fun i hi k hk => ?_, hfit, fun i hi => ?_, fun i hi => ?_, fun i hi => ?_⟩
              · have := n1 i hi
                unfold dupAt at this
                rw [List.any_eq_false] at this
                have h6 := this k (by simpa using hk)
                simpa using h6
              · have := idxR_neg h3 i hi
                simpa [badK] using this
              · have := idxR_neg h4 i hi
                simpa [badK] using this
              · have := idxR_neg h5 i hi
                exact (endsB_iff l1 l2 hfit.inAll i hi).1 (by simpa using this)
theorem Right.in16 {l1 : List S62} {l2 : List S39} (h : Right l1 l2) : In16 l2 := by
  intro m hm
  obtain ⟨i, hi, rfl⟩ := List.getElem_of_mem hm
  have h1 := h.fit.from_ hi
  rw [rd39_at hi] at h1
  have h3 := h.few
  exact ⟨by omega, fun o ho => by have := h.fit.inAll _ hm o ho; omega⟩
theorem Right.from_lt {l1 : List S62} {l2 : List S39} (h : Right l1 l2) {m : S39} (hm : m ∈ l2) : 0 ≤ m.f1 ∧ m.f1 < l1.length := by
  obtain ⟨i, hi, rfl⟩ := List.getElem_of_mem hm
  have h1 := h.fit.from_ hi
  rwa [rd39_at hi] at h1
theorem Right.fin_not {l1 : List S62} {l2 : List S39} (h : Right l1 l2) {m : S39} (hm : m ∈ l2) : (rd_T62 l1 m.f1).f1 = false := by
  obtain ⟨i, hi, rfl⟩ := List.getElem_of_mem hm
  have h1 := h.nofin i hi
  rwa [rd39_at hi] at h1
theorem ba_eq {x y : ByteArray} : (x.toList == y.toList) = true ↔ x.toList = y.toList := by simp
theorem Right.uniq {l1 : List S62} {l2 : List S39} (h : Right l1 l2) {i k : Nat} (hi : i < l2.length) (hk : k < l2.length) (h1 : l2[i].f0.toList = l2[k].f0.toList) (h2 : l2[i].f1 = l2[k].f1) : i = k := by
  have key : ∀ i k : Nat, (hi : i < l2.length) → (hk : k < i) → l2[i].f0.toList = l2[k].f0.toList → l2[i].f1 = l2[k].f1 → False := by
    intro i k hi hk h1 h2
    have := h.once i hi
    unfold againB at this
    rw [onceB_eq, Bool.not_not, Bool.or_eq_false_iff] at this
    have h3 := this.1
    rw [List.any_eq_false] at h3
    have hkl : k < l2.length := by omega
    have hmem : l2[k] ∈ l2.take i := List.mem_take_iff_getElem.2 ⟨k, by omega, rfl⟩
    have h4 := h3 _ hmem
    rw [rd39_at hi] at h4
    apply h4
    unfold sameMv
    rw [h1, h2]; simp
  rcases Nat.lt_trichotomy i k with hlt | rfl | hlt
  · exact (key k i hk hlt h1.symm h2.symm).elim
  · rfl
  · exact (key i k hi hlt h1 h2).elim

/-! ### Step's bits -/
theorem stepO_bit (nm : ByteArray) (j : Nat) : ∀ (os : List S42) (s : Nat), (stepO nm os s).testBit j = true ↔ (s.testBit j = true ∨ ∃ o ∈ os, o.f0.toList = nm.toList ∧ o.f1.toNat = j)
  | [], s => by simp [stepO]
  | o :: os, s => by
    unfold stepO
    rw [stepO_bit nm j os]
    by_cases h : (o.f0.toList == nm.toList) = true
    · rw [if_pos h, test_or, Bool.or_eq_true, decide_eq_true_eq]
      have h' := ba_eq.1 h
      constructor
      · rintro ((h1 | h1) | ⟨x, hx, h2⟩)
        · exact .inl h1
        · exact .inr ⟨o, List.mem_cons_self, h', h1⟩
        · exact .inr ⟨x, List.mem_cons_of_mem _ hx, h2⟩
      · rintro (h1 | ⟨x, hx, h2, h3⟩)
        · exact .inl (.inl h1)
        · rcases List.mem_cons.1 hx with rfl | hx
          · exact .inl (.inr h3)
          · exact .inr ⟨x, hx, h2, h3⟩
    · rw [if_neg h]
      constructor
      · rintro (h1 | ⟨x, hx, h2⟩)
        · exact .inl h1
        · exact .inr ⟨x, List.mem_cons_of_mem _ hx, h2⟩
      · rintro (h1 | ⟨x, hx, h2, h3⟩)
        · exact .inl h1
        · rcases List.mem_cons.1 hx with rfl | hx
          · exact absurd (ba_eq.2 h2) h
          · exact .inr ⟨x, hx, h2, h3⟩
theorem stepM_bit (S : Nat) (op nm : ByteArray) (j : Nat) : ∀ (ms : List S39) (s : Nat), (stepM S op nm ms s).testBit j = true ↔ (s.testBit j = true ∨ ∃ m ∈ ms, m.f0.toList = op.toList ∧ S.testBit m.f1.toNat = true ∧ ∃ o ∈ m.f2, o.f0.toList = nm.toList ∧ o.f1.toNat = j)
  | [], s => by simp [stepM]
  | m :: ms, s => by
    unfold stepM
    rw [stepM_bit S op nm j ms]
    by_cases h : (m.f0.toList == op.toList) = true ∧ S.testBit m.f1.toNat = true
    · rw [if_pos h, stepO_bit]
      have h' := ba_eq.1 h.1
      constructor
      · rintro ((h1 | h1) | ⟨x, hx, h2⟩)
        · exact .inl h1
        · exact .inr ⟨m, List.mem_cons_self, h', h.2, h1⟩
        · exact .inr ⟨x, List.mem_cons_of_mem _ hx, h2⟩
      · rintro (h1 | ⟨x, hx, h2, h3, h4⟩)
        · exact .inl (.inl h1)
        · rcases List.mem_cons.1 hx with rfl | hx
          · exact .inl (.inr h4)
          · exact .inr ⟨x, hx, h2, h3, h4⟩
    · rw [if_neg h]
      constructor
      · rintro (h1 | ⟨x, hx, h2⟩)
        · exact .inl h1
        · exact .inr ⟨x, List.mem_cons_of_mem _ hx, h2⟩
      · rintro (h1 | ⟨x, hx, h2, h3, h4⟩)
        · exact .inl h1
        · rcases List.mem_cons.1 hx with rfl | hx
          · exact absurd ⟨ba_eq.2 h2, h3⟩ h
          · exact .inr ⟨x, hx, h2, h3, h4⟩
theorem stepM_lt {l2 : List S39} (hin : In16 l2) (S : Nat) (op nm : ByteArray) : stepM S op nm l2 0 < 2 ^ 16 := by
  refine Nat.lt_pow_two_of_testBit _ (fun j hj => ?_)
  cases h : (stepM S op nm l2 0).testBit j with
  | false => rfl
  | true =>
    rw [stepM_bit] at h
    rcases h with h | ⟨m, hm, _, _, o, ho, _, h1⟩
    · simp at h
    · have := (hin m hm).2 o ho; omega
end Go.Proofs.Ytkgcfgoaabkcpaa.Pa


/-! ## part F3 -/
namespace Go.Proofs.Ytkgcfgoaabkcpaa.Pa
open Go.RowKit Go.Proofs.YtkgcfgoaabkcpaaW.PrintWords Go.Proofs.YtkgcfgoaabkcpaaW.PrintLast Go.Proofs.YtkgcfgoaabkcpaaW.PrintMore
set_option linter.unusedVariables false
set_option linter.unusedSimpArgs false

/-! ### The reference's Outs, Bit, Step -/
def outsF (st : Int) (op : ByteArray) : List S39 → List S42
  | [] => []
  | m :: ms => if m.f1 = st ∧ (m.f0.toList == op.toList) = true then m.f2 else outsF st op ms
theorem outsF_mem (st : Int) (op : ByteArray) : ∀ (ms : List S39) (o : S42), o ∈ outsF st op ms → ∃ m ∈ ms, o ∈ m.f2
  | [], o, h => by simp [outsF] at h
  | m :: ms, o, h => by
    unfold outsF at h
    split at h
    · exact ⟨m, List.mem_cons_self, h⟩
    · obtain ⟨x, hx, h1⟩ := outsF_mem st op ms o h
      exact ⟨x, List.mem_cons_of_mem _ hx, h1⟩

set_option maxHeartbeats 4000000 in
theorem Outs_calls (a0 : ByteArray) (A1 : Option Addr) (n c1 : Nat) (A2 : Option Addr) (c2 : Nat) (l2 : List S39) (st : Int) (op : ByteArray) (w : World) (hr2 : Kd.C k39 w A2 l2.length l2) :
    Calls Try.prog 32 #[.agg #[.string a0, .slice A1 n c1, .slice A2 l2.length c2], .int .i64 st, .string op] w fun e w' => ∃ A c, e = .returned (.slice A (outsF st op l2).length c) ∧ (outsF st op l2).length ≤ c ∧ Kd.C k42 w' A (outsF st op l2).length (outsF st op l2) ∧ Below w.heap.size w w' := by
  obtain ⟨W0, hW0⟩ : ∃ W0, W0 = w.alloc (.cells #[.string a0, .slice A1 n c1, .slice A2 l2.length c2] 25) := ⟨_, rfl⟩
  have hbw : Below w.heap.size w W0 := by rw [hW0]; exact (Below.refl w.heap.size w).alloc (Nat.le_refl _) _
  have hsz : w.heap.size < W0.heap.size := by rw [hW0]; simp
  have F2 := Lib.hid (show W0.cell? ⟨w.heap.size, 2, none⟩ = some (.slice A2 l2.length c2) by rw [hW0, World.cell?_alloc_at _ _ _ _ rfl]; rfl)
  have G2 := Lib.hid (Kd.C_below hr2 hbw)
  obtain ⟨R, hR⟩ : ∃ R, R = outsF st op l2 := ⟨_, rfl⟩
  rw [← hR]
  have HA : Aside0 (outsF st op (l2.drop 0) = R) := ⟨by rw [List.drop_zero, hR]⟩
  have hl2 := Kd.C_max hr2
  clear hr2 hR
  go_enter Try.func32, Try.ntmps32
  go_wp2
  rw [← hW0]
  clear hW0
  go_loopg [7] l2.length (fun gm s7 wm => ∃ (m : Nat), m ≤ l2.length ∧ l2.length - m ≤ gm ∧ s7 = .int .i64 m ∧ Aside0 (outsF st op (l2.drop m) = R) ∧ Aside0 (Below W0.heap.size W0 wm))
  case atStart => exact ⟨0, Nat.zero_le _, by omega, rfl, HA, ⟨Below.refl _ _⟩⟩
  case round =>
    clear HA
    obtain ⟨m, hm, hgm, rfl, HA, BW⟩ := hrel
    have f2 := (BW.out.cell (p := ⟨w.heap.size, 2, none⟩) hsz).trans F2.out
    by_cases hlm : m < l2.length
    · have hlmz : (m : Int) < (l2.length : Int) := by omega
      have hlmd : decide (m < l2.length) = true := decide_eq_true hlm
      obtain ⟨wo, rfl⟩ : ∃ wo : World, wo = wr := ⟨_, rfl⟩
      obtain ⟨adm, Am, cm, em, hm0, hm1, hm2, hmc, hmo⟩ := at_T39 (Kd.C_below G2.out BW.out) m (by omega) hlmz
      have hgetm := drop39 hlm
      have HA1 := HA.out
      rw [hgetm, outsF] at HA1
      clear hgetm HA
      generalize rd_T39 l2 m = mv at *
      obtain ⟨v0, v1, v2⟩ := mv
      simp only at *
      simp only [Int.toNat_natCast] at hm0 hm1 hm2
      cases em
      have HMO := Lib.hid hmo; clear hmo
      by_cases hst : v1 = st
      · subst hst
        have hst' : (v1 == v1) = true := by simp
        cases hop : (v0.toList == op.toList) with
        | true =>
          have HA2 : Aside0 (v2 = R) := ⟨by rw [if_pos ⟨rfl, hop⟩] at HA1; exact HA1⟩
          clear HA1
          go_wp2
          go_ret
          obtain rfl := HA2.out
          exact ⟨_, _, rfl, hmc, HMO.out, bch hbw BW.out⟩
        | false =>
          have HA2 : Aside0 (outsF v1 op (l2.drop (m + 1)) = R) := ⟨by rw [if_neg (by rw [hop]; simp)] at HA1; exact HA1⟩
          clear HA1
          go_wp2
          go_roundg (l2.length - (m + 1))
          case measure => omega
          case rel => exact ⟨m + 1, by omega, by omega, by go_num, HA2, BW⟩
      · have hst' : (v1 == st) = false := beq_eq_false_iff_ne.mpr hst
        have HA2 : Aside0 (outsF st op (l2.drop (m + 1)) = R) := ⟨by rw [if_neg (fun h => hst h.1)] at HA1; exact HA1⟩
        clear HA1 hst
        go_wp2
        go_roundg (l2.length - (m + 1))
        case measure => omega
        case rel => exact ⟨m + 1, by omega, by omega, by go_num, HA2, BW⟩
    · have hlmz : ¬ (m : Int) < (l2.length : Int) := by omega
      have hlmd : decide (m < l2.length) = false := decide_eq_false hlm
      have HA1 : [] = R := by
        have := HA.out; rw [List.drop_of_length_le (by omega : l2.length ≤ m)] at this; exact this
      subst HA1
      go_wp2
      go_ret
      exact ⟨none, ⟨0, rfl⟩, Kd.C_nil _ _, bch hbw BW.out⟩

set_option maxHeartbeats 1000000 in
theorem Bit_calls (S : Nat) (i : Int) (w : World) (hS : S < 2 ^ 32) (h0 : 0 ≤ i) (h1 : i < 16) :
    Calls Try.prog 57 #[.int .u32 S, .int .i64 i] w fun e w' => e = .returned (.bool (S.testBit i.toNat)) ∧ Below w.heap.size w w' := by
  obtain ⟨J, hJ, hj1, hj2⟩ := shr_facts S i h0 h1
  have hbit := bit_eq S i hS h0 h1
  rw [← hJ] at hbit
  clear hJ
  have hv0t := eq_true h0
  have hv0d : decide (0 ≤ i) = true := decide_eq_true h0
  obtain ⟨b, hb⟩ : ∃ b, b = S.testBit i.toNat := ⟨_, rfl⟩
  rw [← hb] at hbit ⊢
  have hb1 : (Go.bits .and .u32 J 1 == 1) = b := by rw [hbit]; cases b <;> rfl
  clear hbit hb h0 h1
  go_enter Try.func57, Try.ntmps57
  go_wp2
  go_ret
  exact ⟨rfl, Below.refl _ _⟩

theorem bv_add {s i : Nat} (hs : s < 2 ^ 32) (hi : i < 16) (h : s.testBit i = false) : s + 2 ^ i = s ||| 2 ^ i := by
  have hp : 2 ^ i < 2 ^ 16 := Nat.pow_lt_pow_right (by decide) hi
  have key : ∀ x y : Nat, x &&& y = 0 → x + y = x ||| y := by
    intro x y hxy
    have hx : x < 2 ^ (x + y + 1) := Nat.lt_of_lt_of_le Nat.lt_two_pow_self (Nat.pow_le_pow_right (by decide) (by omega))
    have hy : y < 2 ^ (x + y + 1) := Nat.lt_of_lt_of_le Nat.lt_two_pow_self (Nat.pow_le_pow_right (by decide) (by omega))
    have hxy2 : x + y < 2 ^ (x + y + 1) := Nat.lt_of_lt_of_le Nat.lt_two_pow_self (Nat.pow_le_pow_right (by decide) (by omega))
    have h1 := BitVec.add_eq_or_of_and_eq_zero (BitVec.ofNat (x + y + 1) x) (BitVec.ofNat (x + y + 1) y) (by
      apply BitVec.eq_of_toNat_eq
      rw [BitVec.toNat_and, BitVec.toNat_ofNat, BitVec.toNat_ofNat, Nat.mod_eq_of_lt hx, Nat.mod_eq_of_lt hy, hxy]; simp)
    have h2 := congrArg BitVec.toNat h1
    rw [BitVec.toNat_add, BitVec.toNat_or, BitVec.toNat_ofNat, BitVec.toNat_ofNat, Nat.mod_eq_of_lt hx, Nat.mod_eq_of_lt hy, Nat.mod_eq_of_lt hxy2] at h2
    exact h2
  refine key _ _ (Nat.eq_of_testBit_eq fun j => ?_)
  rw [Nat.testBit_and, Nat.testBit_two_pow, Nat.zero_testBit]
  by_cases e : i = j
  · subst e; rw [h]; rfl
  · simp [e]
theorem bv_same {s i : Nat} (h : s.testBit i = true) : s ||| 2 ^ i = s :=
  Nat.eq_of_testBit_eq fun j => by
    rw [test_or]
    by_cases e : i = j
    · subst e; rw [h]; rfl
    · simp [e]

def rstepI (S : Nat) (op nm : ByteArray) (l2 : List S39) : Nat → Nat → Nat → Nat
  | 0, _, s => s
  | d + 1, i, s => rstepI S op nm l2 d (i + 1) (if S.testBit i = true then stepO nm (outsF i op l2) s else s)
end Go.Proofs.Ytkgcfgoaabkcpaa.Pa


/-! ## part F4 -/
namespace Go.Proofs.Ytkgcfgoaabkcpaa.Pa
open Go.RowKit Go.Proofs.YtkgcfgoaabkcpaaW.PrintWords Go.Proofs.YtkgcfgoaabkcpaaW.PrintLast Go.Proofs.YtkgcfgoaabkcpaaW.PrintMore
set_option linter.unusedVariables false
set_option linter.unusedSimpArgs false

set_option maxHeartbeats 8000000 in
theorem refStep_calls (a0 : ByteArray) (A1 : Option Addr) (c1 : Nat) (l1 : List S62) (A2 : Option Addr) (c2 : Nat) (l2 : List S39) (S : Nat) (op nm : ByteArray) (w : World)
    (hr2 : Kd.C k39 w A2 l2.length l2) (hS : S < 2 ^ 32) (hin : In16 l2) (hn : l1.length ≤ 16) :
    Calls Try.prog 20 #[.agg #[.string a0, .slice A1 l1.length c1, .slice A2 l2.length c2], .int .u32 S, .string op, .string nm] w fun e w' => e = .returned (.int .u32 (rstepI S op nm l2 l1.length 0 0 : Nat)) ∧ Below w.heap.size w w' := by
  obtain ⟨W0, hW0⟩ : ∃ W0, W0 = w.alloc (.cells #[.string a0, .slice A1 l1.length c1, .slice A2 l2.length c2] 25) := ⟨_, rfl⟩
  have hbw : Below w.heap.size w W0 := by rw [hW0]; exact (Below.refl w.heap.size w).alloc (Nat.le_refl _) _
  have hsz : w.heap.size < W0.heap.size := by rw [hW0]; simp
  have F0 := Lib.hid (show W0.cell? ⟨w.heap.size, 0, none⟩ = some (.string a0) by rw [hW0, World.cell?_alloc_at _ _ _ _ rfl]; rfl)
  have F1 := Lib.hid (show W0.cell? ⟨w.heap.size, 1, none⟩ = some (.slice A1 l1.length c1) by rw [hW0, World.cell?_alloc_at _ _ _ _ rfl]; rfl)
  have F2 := Lib.hid (show W0.cell? ⟨w.heap.size, 2, none⟩ = some (.slice A2 l2.length c2) by rw [hW0, World.cell?_alloc_at _ _ _ _ rfl]; rfl)
  have G2 := Lib.hid (Kd.C_below hr2 hbw)
  have HIN := Lib.hid hin
  obtain ⟨R, hR⟩ : ∃ R, R = rstepI S op nm l2 l1.length 0 0 := ⟨_, rfl⟩
  rw [← hR]
  have HA : Aside0 (rstepI S op nm l2 (l1.length - 0) 0 0 = R) := ⟨hR.symm⟩
  clear hr2 hR hin
  go_enter Try.func20, Try.ntmps20
  go_wp2
  rw [← hW0]
  clear hW0
  go_loopg [9, 10] l1.length (fun gm s9 s10 wm => ∃ (i s : Nat), i ≤ l1.length ∧ l1.length - i ≤ gm ∧ s10 = .int .i64 i ∧ s9 = .int .u32 s ∧ s < 2 ^ 32 ∧ Aside0 (rstepI S op nm l2 (l1.length - i) i s = R) ∧ Aside0 (Below W0.heap.size W0 wm))
  case atStart => exact ⟨0, 0, Nat.zero_le _, by omega, rfl, rfl, by decide, HA, ⟨Below.refl _ _⟩⟩
  case round =>
    clear HA
    obtain ⟨i, s, hi, hgi, rfl, rfl, hs, HA, BW⟩ := hrel
    have f0 := (BW.out.cell (p := ⟨w.heap.size, 0, none⟩) hsz).trans F0.out
    have f1 := (BW.out.cell (p := ⟨w.heap.size, 1, none⟩) hsz).trans F1.out
    have f2 := (BW.out.cell (p := ⟨w.heap.size, 2, none⟩) hsz).trans F2.out
    by_cases hli : i < l1.length
    · have hliz : (i : Int) < (l1.length : Int) := by omega
      have hlid : decide (i < l1.length) = true := decide_eq_true hli
      obtain ⟨wo, rfl⟩ : ∃ wo : World, wo = wr := ⟨_, rfl⟩
      obtain ⟨b, hb⟩ : ∃ b, b = S.testBit i := ⟨_, rfl⟩
      have HOM := Lib.hid (fun o (ho : o ∈ outsF i op l2) => by
        obtain ⟨m, hm, h1⟩ := outsF_mem i op l2 o ho
        exact (HIN.out m hm).2 o h1 : ∀ o ∈ outsF i op l2, 0 ≤ o.f1 ∧ o.f1 < 16)
      have HA1 : Aside0 (rstepI S op nm l2 (l1.length - (i + 1)) (i + 1) (if b = true then stepO nm ((outsF i op l2).drop 0) s else s) = R) := ⟨by
        have := HA.out
        rw [show l1.length - i = (l1.length - (i + 1)) + 1 by omega, rstepI, ← hb] at this
        rw [List.drop_zero]; exact this⟩
      have hcall := Outs_calls a0 A1 l1.length c1 A2 c2 l2 i op wo (Kd.C_below G2.out BW.out)
      generalize outsF i op l2 = L at *
      have HBT := Lib.hid hb
      clear HA hb
      go_wp2_with fail
      refine hcall.mono ?_
      rintro e w1 ⟨A, c, rfl, hc, hk, hb1⟩
      have HL := Lib.hid hk
      have HB1 := Aside0.mk hb1
      have hLmax := Kd.C_max hk
      clear hk hb1 f0 f1 f2 hcall
      go_wp2
      go_loopg [9, 12] L.length (fun go s9 s12 wq => ∃ (o s : Nat), o ≤ L.length ∧ L.length - o ≤ go ∧ s12 = .int .i64 o ∧ s9 = .int .u32 s ∧ s < 2 ^ 32 ∧ Aside0 (rstepI S op nm l2 (l1.length - (i + 1)) (i + 1) (if b = true then stepO nm (L.drop o) s else s) = R) ∧ Aside0 (Below w1.heap.size w1 wq))
      case atStart => exact ⟨0, s, Nat.zero_le _, by omega, rfl, rfl, hs, HA1, ⟨Below.refl _ _⟩⟩
      case round =>
        clear HA1 hs
        obtain ⟨o, s, ho, hgo, rfl, rfl, hs, HA, BQ⟩ := hrel
        by_cases hlo : o < L.length
        · have hloz : (o : Int) < (L.length : Int) := by omega
          have hlod : decide (o < L.length) = true := decide_eq_true hlo
          obtain ⟨wo2, rfl⟩ : ∃ wo2 : World, wo2 = wr := ⟨_, rfl⟩
          obtain ⟨ado, eo, ho0, ho1⟩ := at_T42 (Kd.C_below HL.out BQ.out) o (by omega) hloz
          have hgeto := drop42 hlo
          obtain ⟨ht0, ht1⟩ := HOM.out _ (rd42_mem hlo)
          have HA1 := HA.out
          rw [hgeto] at HA1
          clear hgeto HA
          generalize rd_T42 L o = ov at *
          obtain ⟨o0, o1⟩ := ov
          simp only at *
          simp only [Int.toNat_natCast] at ho0 ho1
          cases eo
          rw [stepO] at HA1
          simp only at HA1
          have hcb := Bit_calls S i wo2 hS (by omega) (by omega)
          rw [Int.toNat_natCast, ← HBT.out] at hcb
          cases b with
          | false =>
            have HA2 : Aside0 (rstepI S op nm l2 (l1.length - (i + 1)) (i + 1) (if false = true then stepO nm (L.drop (o + 1)) s else s) = R) := ⟨by
              rw [if_neg (by simp)] at HA1 ⊢; exact HA1⟩
            clear HA1
            go_wp2_with fail
            refine hcb.mono ?_
            rintro e w2 ⟨rfl, hb2⟩
            have HB2 := Aside0.mk hb2
            clear hb2 ho0 ho1 hcb
            go_wp2
            go_roundg (L.length - (o + 1))
            case measure => omega
            case rel => exact ⟨o + 1, s, by omega, by omega, by go_num, rfl, hs, HA2, ⟨bch BQ.out HB2.out⟩⟩
          | true =>
            rw [if_pos rfl] at HA1
            cases hnm : (o0.toList == nm.toList) with
            | false =>
              have HA2 : Aside0 (rstepI S op nm l2 (l1.length - (i + 1)) (i + 1) (if true = true then stepO nm (L.drop (o + 1)) s else s) = R) := ⟨by
                rw [hnm, if_neg (by simp)] at HA1; rw [if_pos rfl]; exact HA1⟩
              clear HA1
              go_wp2_with fail
              refine hcb.mono ?_
              rintro e w2 ⟨rfl, hb2⟩
              have HB2 := Aside0.mk hb2
              replace ho0 := (hb2.cell (World.block_lt_of_cell? wo2 _ ho0)).trans ho0
              replace ho1 := (hb2.cell (World.block_lt_of_cell? wo2 _ ho1)).trans ho1
              clear hb2 hcb
              go_wp2
              go_roundg (L.length - (o + 1))
              case measure => omega
              case rel => exact ⟨o + 1, s, by omega, by omega, by go_num, rfl, hs, HA2, ⟨bch BQ.out HB2.out⟩⟩
            | true =>
              rw [hnm, if_pos rfl] at HA1
              have HA2 : Aside0 (rstepI S op nm l2 (l1.length - (i + 1)) (i + 1) (if true = true then stepO nm (L.drop (o + 1)) (s ||| 2 ^ o1.toNat) else s ||| 2 ^ o1.toNat) = R) := ⟨by
                rw [if_pos rfl]; exact HA1⟩
              clear HA1
              have HLT := Aside0.mk (or_lt s o1.toNat hs (by omega))
              go_wp2_with fail
              refine hcb.mono ?_
              rintro e w2 ⟨rfl, hb2⟩
              have HB2 := Aside0.mk hb2
              replace ho0 := (hb2.cell (World.block_lt_of_cell? wo2 _ ho0)).trans ho0
              replace ho1 := (hb2.cell (World.block_lt_of_cell? wo2 _ ho1)).trans ho1
              have hcb2 := Bit_calls s o1 w2 hs ht0 ht1
              clear hb2 hcb
              cases hbt : s.testBit o1.toNat with
              | true =>
                rw [hbt] at hcb2
                have HSM := Aside0.mk (bv_same hbt)
                go_wp2_with fail
                refine hcb2.mono ?_
                rintro e w3 ⟨rfl, hb3⟩
                have HB3 := Aside0.mk hb3
                clear hb3 ho0 ho1 hcb2
                go_wp2
                go_roundg (L.length - (o + 1))
                case measure => omega
                case rel => exact ⟨o + 1, s, by omega, by omega, by go_num, rfl, hs, ⟨by have := HA2.out; rw [HSM.out] at this; exact this⟩, ⟨bch (bch BQ.out HB2.out) HB3.out⟩⟩
              | false =>
                rw [hbt] at hcb2
                have hadd := bv_add hs (by omega) hbt
                obtain ⟨K, hK, hk1, hk2, hk3, hk4⟩ := shl_facts o1 ht0 ht1
                have hKn : K = ((2 ^ o1.toNat : Nat) : Int) := by
                  rw [hK]; have := shl1 o1.toNat (by omega); rwa [Int.toNat_of_nonneg ht0] at this
                have HKA : Aside0 (IntKind.u32.wrap ((s : Int) + K) = ((s ||| 2 ^ o1.toNat : Nat) : Int)) := ⟨by
                  rw [hKn, ← hadd, ← Int.natCast_add]
                  have := HLT.out
                  rw [← hadd] at this
                  exact wraps_u32 _ (Int.natCast_nonneg _) (by exact_mod_cast this)⟩
                have ht0d : decide (0 ≤ o1) = true := decide_eq_true ht0
                have ht0t := eq_true ht0
                clear hadd hK hKn hbt
                go_wp2_with fail
                refine hcb2.mono ?_
                rintro e w3 ⟨rfl, hb3⟩
                have HB3 := Aside0.mk hb3
                replace ho0 := (hb3.cell (World.block_lt_of_cell? w2 _ ho0)).trans ho0
                replace ho1 := (hb3.cell (World.block_lt_of_cell? w2 _ ho1)).trans ho1
                clear hb3 hcb2 ht0 ht1
                go_wp2
                go_roundg (L.length - (o + 1))
                case measure => omega
                case rel => exact ⟨o + 1, s ||| 2 ^ o1.toNat, by omega, by omega, by go_num, by have h := HKA.out; rw [IntKind.wrap_u32] at h; rw [h], HLT.out, HA2, ⟨bch (bch BQ.out HB2.out) HB3.out⟩⟩
        · have hloz : ¬ (o : Int) < (L.length : Int) := by omega
          have hlod : decide (o < L.length) = false := decide_eq_false hlo
          have HA1 : Aside0 (rstepI S op nm l2 (l1.length - (i + 1)) (i + 1) s = R) := ⟨by
            have := HA.out; rw [List.drop_of_length_le (by omega : L.length ≤ o)] at this
            rw [← this]; cases b <;> rfl⟩
          clear HA
          go_wp2
          go_roundg (l1.length - (i + 1))
          case measure => omega
          case rel => exact ⟨i + 1, s, by omega, by omega, by go_num, rfl, hs, HA1, ⟨bch BW.out (bch HB1.out BQ.out)⟩⟩
    · have hliz : ¬ (i : Int) < (l1.length : Int) := by omega
      have hlid : decide (i < l1.length) = false := decide_eq_false hli
      have HA1 : s = R := by
        have := HA.out; rw [show l1.length - i = 0 by omega] at this; exact this
      subst HA1
      go_wp2
      go_ret
      exact ⟨rfl, bch hbw BW.out⟩
end Go.Proofs.Ytkgcfgoaabkcpaa.Pa


/-! ## part F5 -/
namespace Go.Proofs.Ytkgcfgoaabkcpaa.Pa
open Go.RowKit Go.Proofs.YtkgcfgoaabkcpaaW.PrintWords Go.Proofs.YtkgcfgoaabkcpaaW.PrintLast Go.Proofs.YtkgcfgoaabkcpaaW.PrintMore
set_option linter.unusedVariables false
set_option linter.unusedSimpArgs false

/-! ### Steps, plain -/
theorem outsF_find (st : Int) (op : ByteArray) : ∀ ms : List S39, (∃ m ∈ ms, m.f1 = st ∧ m.f0.toList = op.toList ∧ outsF st op ms = m.f2) ∨ (outsF st op ms = [] ∧ ∀ m ∈ ms, ¬ (m.f1 = st ∧ m.f0.toList = op.toList))
  | [] => .inr ⟨rfl, fun m hm => by cases hm⟩
  | m :: ms => by
    unfold outsF
    by_cases h : m.f1 = st ∧ (m.f0.toList == op.toList) = true
    · rw [if_pos h]
      exact .inl ⟨m, List.mem_cons_self, h.1, ba_eq.1 h.2, rfl⟩
    · rw [if_neg h]
      rcases outsF_find st op ms with ⟨x, hx, h1, h2, h3⟩ | ⟨h1, h2⟩
      · exact .inl ⟨x, List.mem_cons_of_mem _ hx, h1, h2, h3⟩
      · refine .inr ⟨h1, fun x hx => ?_⟩
        rcases List.mem_cons.1 hx with rfl | hx
        · exact fun h4 => h ⟨h4.1, ba_eq.2 h4.2⟩
        · exact h2 x hx
theorem Right.same {l1 : List S62} {l2 : List S39} (h : Right l1 l2) {m m' : S39} (hm : m ∈ l2) (hm' : m' ∈ l2) (h1 : m.f0.toList = m'.f0.toList) (h2 : m.f1 = m'.f1) : m = m' := by
  obtain ⟨i, hi, rfl⟩ := List.getElem_of_mem hm
  obtain ⟨k, hk, rfl⟩ := List.getElem_of_mem hm'
  have := h.uniq hi hk h1 h2
  subst this; rfl
theorem Right.outs_eq {l1 : List S62} {l2 : List S39} (h : Right l1 l2) {m : S39} (hm : m ∈ l2) {op : ByteArray} (h1 : m.f0.toList = op.toList) : outsF m.f1 op l2 = m.f2 := by
  rcases outsF_find m.f1 op l2 with ⟨x, hx, h2, h3, h4⟩ | ⟨h2, h3⟩
  · rw [h4, h.same hx hm (h3.trans h1.symm) h2]
  · exact absurd ⟨rfl, h1⟩ (h3 m hm)
theorem rstepI_bit (S : Nat) (op nm : ByteArray) (l2 : List S39) (j : Nat) : ∀ (d i s : Nat), (rstepI S op nm l2 d i s).testBit j = true ↔ (s.testBit j = true ∨ ∃ q : Nat, i ≤ q ∧ q < i + d ∧ S.testBit q = true ∧ ∃ o ∈ outsF q op l2, o.f0.toList = nm.toList ∧ o.f1.toNat = j)
  | 0, i, s => by
    unfold rstepI
    constructor
    · exact .inl
    · rintro (h | ⟨q, h1, h2, _⟩)
      · exact h
      · omega
  | d + 1, i, s => by
    unfold rstepI
    rw [rstepI_bit S op nm l2 j d (i + 1)]
    by_cases hb : S.testBit i = true
    · rw [if_pos hb, stepO_bit]
      constructor
      · rintro ((h | h) | ⟨q, h1, h2, h3⟩)
        · exact .inl h
        · exact .inr ⟨i, by omega, by omega, hb, h⟩
        · exact .inr ⟨q, by omega, by omega, h3⟩
      · rintro (h | ⟨q, h1, h2, h3, h4⟩)
        · exact .inl (.inl h)
        · by_cases e : q = i
          · subst e; exact .inl (.inr h4)
          · exact .inr ⟨q, by omega, by omega, h3, h4⟩
    · rw [if_neg hb]
      constructor
      · rintro (h | ⟨q, h1, h2, h3⟩)
        · exact .inl h
        · exact .inr ⟨q, by omega, by omega, h3⟩
      · rintro (h | ⟨q, h1, h2, h3, h4⟩)
        · exact .inl h
        · by_cases e : q = i
          · subst e; exact absurd h3 hb
          · exact .inr ⟨q, by omega, by omega, h3, h4⟩
theorem Right.step_eq {l1 : List S62} {l2 : List S39} (h : Right l1 l2) (S : Nat) (op nm : ByteArray) : rstepI S op nm l2 l1.length 0 0 = stepM S op nm l2 0 := by
  refine Nat.eq_of_testBit_eq fun j => ?_
  rw [Bool.eq_iff_iff, rstepI_bit, stepM_bit]
  constructor
  · rintro (h1 | ⟨q, h1, h2, h3, o, ho, h4⟩)
    · exact .inl h1
    · right
      rcases outsF_find q op l2 with ⟨m, hm, h5, h6, h7⟩ | ⟨h5, _⟩
      · exact ⟨m, hm, h6, by rw [h5, Int.toNat_natCast]; exact h3, o, by rw [← h7]; exact ho, h4⟩
      · rw [h5] at ho; cases ho
  · rintro (h1 | ⟨m, hm, h1, h2, o, ho, h3⟩)
    · exact .inl h1
    · right
      obtain ⟨p0, p1⟩ := h.from_lt hm
      refine ⟨m.f1.toNat, by omega, by omega, h2, o, ?_, h3⟩
      rw [Int.toNat_of_nonneg p0, h.outs_eq hm h1]
      exact ho
theorem step_union (A B : Nat) (op nm : ByteArray) (l2 : List S39) : stepM (A ||| B) op nm l2 0 = stepM A op nm l2 0 ||| stepM B op nm l2 0 := by
  refine Nat.eq_of_testBit_eq fun j => ?_
  rw [Nat.testBit_or, Bool.eq_iff_iff, Bool.or_eq_true, stepM_bit, stepM_bit, stepM_bit]
  constructor
  · rintro (h1 | ⟨m, hm, h1, h2, h3⟩)
    · simp at h1
    · rw [Nat.testBit_or, Bool.or_eq_true] at h2
      rcases h2 with h2 | h2
      · exact .inl (.inr ⟨m, hm, h1, h2, h3⟩)
      · exact .inr (.inr ⟨m, hm, h1, h2, h3⟩)
  · rintro ((h1 | ⟨m, hm, h1, h2, h3⟩) | (h1 | ⟨m, hm, h1, h2, h3⟩))
    · simp at h1
    · exact .inr ⟨m, hm, h1, by rw [Nat.testBit_or, h2]; rfl, h3⟩
    · simp at h1
    · exact .inr ⟨m, hm, h1, by rw [Nat.testBit_or, h2, Bool.or_true], h3⟩
theorem Right.step_fin {l1 : List S62} {l2 : List S39} (h : Right l1 l2) (op nm : ByteArray) : stepM (finS l1 l1.length) op nm l2 0 = 0 := by
  refine Nat.eq_of_testBit_eq fun j => ?_
  rw [Nat.zero_testBit]
  cases hb : (stepM (finS l1 l1.length) op nm l2 0).testBit j with
  | false => rfl
  | true =>
    rw [stepM_bit] at hb
    rcases hb with h1 | ⟨m, hm, _, h2, _⟩
    · simp at h1
    · rw [finS_bit, Bool.and_eq_true] at h2
      have h3 := h.fin_not hm
      rw [Int.toNat_of_nonneg (h.from_lt hm).1] at h2
      rw [h3] at h2
      exact absurd h2.2 (by simp)
theorem step_takes {l2 : List S39} {m : S39} {o : S42} (hm : m ∈ l2) (ho : o ∈ m.f2) (A : Nat) (hA : A.testBit m.f1.toNat = true) : (stepM A m.f0 o.f0 l2 0).testBit o.f1.toNat = true :=
  (stepM_bit A m.f0 o.f0 _ l2 0).2 (.inr ⟨m, hm, rfl, hA, o, ho, rfl, rfl⟩)
end Go.Proofs.Ytkgcfgoaabkcpaa.Pa

