import Derived.Test.YtkgcfgoaabkcpaaE7
import Derived.Laws.BitsLemmas
namespace Go.Proofs.Ytkgcfgoaabkcpaa.Pa
open Go.RowKit Go.Proofs.YtkgcfgoaabkcpaaW.PrintWords Go.Proofs.YtkgcfgoaabkcpaaW.PrintLast Go.Proofs.YtkgcfgoaabkcpaaW.PrintMore
set_option linter.unusedVariables false
set_option linter.unusedSimpArgs false

/-! ### Bits -/
theorem wraps_u32 (n : Int) (h₀ : 0 ≤ n) (h₁ : n < 2 ^ 32) : IntKind.u32.wrap n = n := by rw [IntKind.wrap_u32]; omega
theorem and32 (a b : Nat) (ha : a < 2 ^ 32) (hb : b < 2 ^ 32) : Go.bits .and .u32 a b = ((a &&& b : Nat) : Int) := (bits_nat .u32 32 (by decide) wraps_u32 a b ha hb).1
theorem or32 (a b : Nat) (ha : a < 2 ^ 32) (hb : b < 2 ^ 32) : Go.bits .or .u32 a b = ((a ||| b : Nat) : Int) := (bits_nat .u32 32 (by decide) wraps_u32 a b ha hb).2
theorem shl1 (i : Nat) (hi : i < 32) : shl .u32 1 (i : Int) = ((2 ^ i : Nat) : Int) := by
  unfold shl
  rw [Int.one_mul, Int.toNat_natCast, show min i IntKind.u32.bits = i by simp [IntKind.bits]; omega]
  have h : (2 : Nat) ^ i < 2 ^ 32 := Nat.pow_lt_pow_right (by decide) hi
  rw [show ((2 : Int) ^ i) = ((2 ^ i : Nat) : Int) by simp]
  exact wraps_u32 _ (Int.natCast_nonneg _) (by exact_mod_cast h)
theorem shr32 (S i : Nat) (hi : i < 32) : shr .u32 (S : Int) (i : Int) = ((S / 2 ^ i : Nat) : Int) := by
  unfold shr
  rw [Int.toNat_natCast, show min i IntKind.u32.bits = i by simp [IntKind.bits]; omega]
  simp
theorem bit32 (S i : Nat) (hS : S < 2 ^ 32) (hi : i < 32) : Go.bits .and .u32 (shr .u32 (S : Int) (i : Int)) 1 = if S.testBit i then 1 else 0 := by
  rw [shr32 S i hi, show (1 : Int) = ((1 : Nat) : Int) by rfl, and32 _ _ (Nat.lt_of_le_of_lt (Nat.div_le_self _ _) hS) (by decide)]
  rw [Nat.and_one_is_mod, Nat.testBit_eq_decide_div_mod_eq]
  by_cases h : S / 2 ^ i % 2 = 1
  · simp [h]
  · have : S / 2 ^ i % 2 = 0 := by omega
    simp [this]
theorem bit_pos (S i : Nat) (hS : S < 2 ^ 32) (hi : i < 32) : (Go.bits .and .u32 (shr .u32 (S : Int) (i : Int)) 1 = 1) ↔ S.testBit i = true := by
  rw [bit32 S i hS hi]; cases S.testBit i <;> simp
theorem bit_zero (S i : Nat) (hS : S < 2 ^ 32) (hi : i < 32) : (Go.bits .and .u32 (shr .u32 (S : Int) (i : Int)) 1 = 0) ↔ S.testBit i = false := by
  rw [bit32 S i hS hi]; cases S.testBit i <;> simp
theorem orbit (S i : Nat) (hS : S < 2 ^ 32) (hi : i < 32) : Go.bits .or .u32 (S : Int) (shl .u32 1 (i : Int)) = ((S ||| 2 ^ i : Nat) : Int) := by
  rw [shl1 i hi]
  exact or32 _ _ hS (Nat.pow_lt_pow_right (by decide) hi)
theorem or_lt (S i : Nat) (hS : S < 2 ^ 32) (hi : i < 32) : S ||| 2 ^ i < 2 ^ 32 := Nat.or_lt_two_pow hS (Nat.pow_lt_pow_right (by decide) hi)
theorem test_or (S i j : Nat) : (S ||| 2 ^ i).testBit j = (S.testBit j || decide (i = j)) := by
  rw [Nat.testBit_or, Nat.testBit_two_pow]

/-! ### Reaching -/
def reachN (l1 : List S62) (l2 : List S39) : Nat → Nat → Bool
  | 0, i => (rd_T62 l1 i).f1
  | k + 1, i => reachN l1 l2 k i || l2.any (fun m => (m.f1 == (i : Int)) && m.f2.any (fun o => reachN l1 l2 k o.f1.toNat))
theorem reach_mono1 (l1 : List S62) (l2 : List S39) (k i : Nat) (h : reachN l1 l2 k i = true) : reachN l1 l2 (k + 1) i = true := by simp [reachN, h]
theorem reach_mono (l1 : List S62) (l2 : List S39) (k i d : Nat) (h : reachN l1 l2 k i = true) : reachN l1 l2 (k + d) i = true := by
  induction d with
  | zero => exact h
  | succ d ih => exact reach_mono1 _ _ _ _ ih
theorem reach_stable (l1 : List S62) (l2 : List S39) (hin : InAll l1 l2) (k : Nat) (h : ∀ j, j < l1.length → reachN l1 l2 (k + 1) j = reachN l1 l2 k j) : ∀ d j, j < l1.length → reachN l1 l2 (k + d) j = reachN l1 l2 k j := by
  intro d
  induction d with
  | zero => intro j _; rfl
  | succ d ih =>
    intro j hj
    rw [← h j hj]
    show (reachN l1 l2 (k + d) j || _) = (reachN l1 l2 k j || _)
    rw [ih j hj]
    congr 1
    rw [Bool.eq_iff_iff, List.any_eq_true, List.any_eq_true]
    have key : ∀ m ∈ l2, (m.f2.any fun o => reachN l1 l2 (k + d) o.f1.toNat) = (m.f2.any fun o => reachN l1 l2 k o.f1.toNat) := by
      intro m hm
      rw [Bool.eq_iff_iff, List.any_eq_true, List.any_eq_true]
      constructor
      · rintro ⟨o, ho, h1⟩
        have := hin m hm o ho
        exact ⟨o, ho, by rw [← ih _ (by omega)]; exact h1⟩
      · rintro ⟨o, ho, h1⟩
        have := hin m hm o ho
        exact ⟨o, ho, by rw [ih _ (by omega)]; exact h1⟩
    constructor
    · rintro ⟨m, hm, h1⟩
      exact ⟨m, hm, by simp only [Nat.add_eq] at h1; rw [key m hm] at h1; exact h1⟩
    · rintro ⟨m, hm, h1⟩
      exact ⟨m, hm, by simp only [Nat.add_eq]; rw [key m hm]; exact h1⟩

theorem filter_le {α : Type} (p q : α → Bool) : ∀ (l : List α), (∀ x ∈ l, p x = true → q x = true) → (l.filter p).length ≤ (l.filter q).length
  | [], _ => by simp
  | x :: l, h => by
    have ih := filter_le p q l (fun y hy => h y (List.mem_cons_of_mem _ hy))
    have hx := h x List.mem_cons_self
    rw [List.filter_cons, List.filter_cons]
    cases hp : p x <;> cases hq : q x <;> simp <;> first | omega | (rw [hp] at hx; simp [hq] at hx)
theorem filter_lt {α : Type} (p q : α → Bool) : ∀ (l : List α), (∀ x ∈ l, p x = true → q x = true) → (∃ x ∈ l, q x = true ∧ p x = false) → (l.filter p).length < (l.filter q).length
  | [], _, ⟨x, hx, _⟩ => by cases hx
  | x :: l, h, ⟨y, hy, hqy, hpy⟩ => by
    have hx := h x List.mem_cons_self
    rw [List.filter_cons, List.filter_cons]
    rcases List.mem_cons.1 hy with rfl | hy
    · have ih := filter_le p q l (fun y hy => h y (List.mem_cons_of_mem _ hy))
      rw [hqy, hpy]; simp; omega
    · have ih := filter_lt p q l (fun y hy => h y (List.mem_cons_of_mem _ hy)) ⟨y, hy, hqy, hpy⟩
      cases hp : p x <;> cases hq : q x <;> simp <;> first | omega | (rw [hp] at hx; simp [hq] at hx)

theorem reach_pigeon (l1 : List S62) (l2 : List S39) (hin : InAll l1 l2) : ∀ k, (∃ k' , k' < k ∧ ∀ j, j < l1.length → reachN l1 l2 (k' + 1) j = reachN l1 l2 k' j) ∨ k ≤ ((List.range l1.length).filter (reachN l1 l2 k)).length := by
  intro k
  induction k with
  | zero => right; omega
  | succ k ih =>
    rcases ih with ⟨k', h1, h2⟩ | ih
    · exact .inl ⟨k', by omega, h2⟩
    · by_cases hs : ∀ j, j < l1.length → reachN l1 l2 (k + 1) j = reachN l1 l2 k j
      · exact .inl ⟨k, by omega, hs⟩
      · right
        have : ∃ j, j < l1.length ∧ reachN l1 l2 (k + 1) j ≠ reachN l1 l2 k j := by
          apply Classical.byContradiction
          intro hn
          exact hs (fun j hj => Classical.byContradiction (fun h => hn ⟨j, hj, h⟩))
        obtain ⟨j, hj, hne⟩ := this
        have hlt := filter_lt (reachN l1 l2 k) (reachN l1 l2 (k + 1)) (List.range l1.length) (fun x _ hx => reach_mono1 _ _ _ _ hx) ⟨j, by simpa using hj, by
          cases h1 : reachN l1 l2 k j with
          | true => exact absurd ((reach_mono1 _ _ _ _ h1).trans h1.symm) hne
          | false => rw [h1] at hne; exact ⟨by simpa using hne, rfl⟩⟩
        omega
theorem reach_n (l1 : List S62) (l2 : List S39) (hin : InAll l1 l2) (k i : Nat) (hi : i < l1.length) (h : reachN l1 l2 k i = true) : reachN l1 l2 l1.length i = true := by
  rcases reach_pigeon l1 l2 hin (l1.length + 1) with ⟨k', h1, h2⟩ | h1
  · by_cases hk : k ≤ k'
    · have h3 := reach_mono l1 l2 k i (l1.length - k) h
      rw [show k + (l1.length - k) = l1.length by omega] at h3
      exact h3
    · have h3 := reach_stable l1 l2 hin k' h2 (k - k') i hi
      rw [show k' + (k - k') = k by omega, h] at h3
      have h4 := reach_mono l1 l2 k' i (l1.length - k') h3.symm
      rw [show k' + (l1.length - k') = l1.length by omega] at h4
      exact h4
  · have := List.length_filter_le (reachN l1 l2 (l1.length + 1)) (List.range l1.length)
    rw [List.length_range] at this
    omega

/-! ### The reference's Ends reaches just so -/
theorem endsO_none (l1 : List S62) : ∀ (os : List S42) (nx : List Int), endsO l1 os nx = none ↔ ∃ o ∈ os, (rd_T62 l1 o.f1).f1 = true
  | [], nx => by simp [endsO]
  | o :: os, nx => by
    rw [endsO]
    by_cases h : (rd_T62 l1 o.f1).f1 = true
    · rw [if_pos h]; simp [h]
    · rw [if_neg h, endsO_none l1 os]; simp [h]
theorem endsO_some (l1 : List S62) : ∀ (os : List S42) (nx r : List Int), endsO l1 os nx = some r → (∀ x ∈ nx, x ∈ r) ∧ (∀ o ∈ os, o.f1 ∈ r) ∧ (∀ x ∈ r, x ∈ nx ∨ ∃ o ∈ os, o.f1 = x)
  | [], nx, r, h => by cases h; exact ⟨fun x hx => hx, fun o ho => (by cases ho), fun x hx => .inl hx⟩
  | o :: os, nx, r, h => by
    rw [endsO] at h
    by_cases hf : (rd_T62 l1 o.f1).f1 = true
    · rw [if_pos hf] at h; cases h
    · rw [if_neg hf] at h
      obtain ⟨h1, h2, h3⟩ := endsO_some l1 os _ r h
      by_cases hc : nx.contains o.f1 = true
      · rw [if_pos hc] at h1 h3
        refine ⟨h1, fun q hq => ?_, fun x hx => ?_⟩
        · rcases List.mem_cons.1 hq with rfl | hq
          · exact h1 _ (by simpa using hc)
          · exact h2 q hq
        · rcases h3 x hx with h | ⟨q, hq, h⟩
          · exact .inl h
          · exact .inr ⟨q, List.mem_cons_of_mem _ hq, h⟩
      · rw [if_neg hc] at h1 h3
        refine ⟨fun x hx => h1 x (List.mem_append_left _ hx), fun q hq => ?_, fun x hx => ?_⟩
        · rcases List.mem_cons.1 hq with rfl | hq
          · exact h1 _ (List.mem_append_right _ (by simp))
          · exact h2 q hq
        · rcases h3 x hx with h | ⟨q, hq, h⟩
          · rcases List.mem_append.1 h with h | h
            · exact .inl h
            · simp at h; exact .inr ⟨o, List.mem_cons_self, h.symm⟩
          · exact .inr ⟨q, List.mem_cons_of_mem _ hq, h⟩
theorem endsM_none (l1 : List S62) (s : Int) : ∀ (ms : List S39) (nx : List Int), endsM l1 s ms nx = none ↔ ∃ m ∈ ms, m.f1 = s ∧ ∃ o ∈ m.f2, (rd_T62 l1 o.f1).f1 = true
  | [], nx => by simp [endsM]
  | m :: ms, nx => by
    rw [endsM]
    by_cases h : m.f1 = s
    · rw [if_pos h]
      cases hq : endsO l1 m.f2 nx with
      | none => have := (endsO_none l1 m.f2 nx).1 hq; simp [h]; exact .inl this
      | some r =>
        have hn : ¬ ∃ o ∈ m.f2, (rd_T62 l1 o.f1).f1 = true := fun hh => by have := (endsO_none l1 m.f2 nx).2 hh; rw [this] at hq; cases hq
        rw [Option.bind_some, endsM_none l1 s ms]
        constructor
        · rintro ⟨m', hm', h'⟩; exact ⟨m', List.mem_cons_of_mem _ hm', h'⟩
        · rintro ⟨m', hm', h'⟩
          rcases List.mem_cons.1 hm' with rfl | hm'
          · exact absurd h'.2 hn
          · exact ⟨m', hm', h'⟩
    · rw [if_neg h, endsM_none l1 s ms]
      constructor
      · rintro ⟨m', hm', h'⟩; exact ⟨m', List.mem_cons_of_mem _ hm', h'⟩
      · rintro ⟨m', hm', h'⟩
        rcases List.mem_cons.1 hm' with rfl | hm'
        · exact absurd h'.1 h
        · exact ⟨m', hm', h'⟩
theorem endsM_some (l1 : List S62) (s : Int) : ∀ (ms : List S39) (nx r : List Int), endsM l1 s ms nx = some r → (∀ x ∈ nx, x ∈ r) ∧ (∀ m ∈ ms, m.f1 = s → ∀ o ∈ m.f2, o.f1 ∈ r) ∧ (∀ x ∈ r, x ∈ nx ∨ ∃ m ∈ ms, m.f1 = s ∧ ∃ o ∈ m.f2, o.f1 = x)
  | [], nx, r, h => by cases h; exact ⟨fun x hx => hx, fun o ho => (by cases ho), fun x hx => .inl hx⟩
  | m :: ms, nx, r, h => by
    rw [endsM] at h
    by_cases hf : m.f1 = s
    · rw [if_pos hf] at h
      cases hq : endsO l1 m.f2 nx with
      | none => rw [hq] at h; cases h
      | some r1 =>
        rw [hq, Option.bind_some] at h
        obtain ⟨a1, a2, a3⟩ := endsO_some l1 m.f2 nx r1 hq
        obtain ⟨h1, h2, h3⟩ := endsM_some l1 s ms r1 r h
        refine ⟨fun x hx => h1 x (a1 x hx), fun m' hm' he o ho => ?_, fun x hx => ?_⟩
        · rcases List.mem_cons.1 hm' with rfl | hm'
          · exact h1 _ (a2 o ho)
          · exact h2 m' hm' he o ho
        · rcases h3 x hx with h | ⟨m', hm', h⟩
          · rcases a3 x h with h | ⟨o, ho, h⟩
            · exact .inl h
            · exact .inr ⟨m, List.mem_cons_self, hf, o, ho, h⟩
          · exact .inr ⟨m', List.mem_cons_of_mem _ hm', h⟩
    · rw [if_neg hf] at h
      obtain ⟨h1, h2, h3⟩ := endsM_some l1 s ms nx r h
      refine ⟨h1, fun m' hm' he o ho => ?_, fun x hx => ?_⟩
      · rcases List.mem_cons.1 hm' with rfl | hm'
        · exact absurd he hf
        · exact h2 m' hm' he o ho
      · rcases h3 x hx with h | ⟨m', hm', h⟩
        · exact .inl h
        · exact .inr ⟨m', List.mem_cons_of_mem _ hm', h⟩
theorem endsI_none (l1 : List S62) (l2 : List S39) : ∀ (ss nx : List Int), endsI l1 l2 ss nx = none ↔ ∃ s ∈ ss, ∃ m ∈ l2, m.f1 = s ∧ ∃ o ∈ m.f2, (rd_T62 l1 o.f1).f1 = true
  | [], nx => by simp [endsI]
  | s :: ss, nx => by
    rw [endsI]
    cases hq : endsM l1 s l2 nx with
    | none => have := (endsM_none l1 s l2 nx).1 hq; simp; exact .inl this
    | some r =>
      have hn : ¬ ∃ m ∈ l2, m.f1 = s ∧ ∃ o ∈ m.f2, (rd_T62 l1 o.f1).f1 = true := fun hh => by have := (endsM_none l1 s l2 nx).2 hh; rw [this] at hq; cases hq
      rw [Option.bind_some, endsI_none l1 l2 ss]
      constructor
      · rintro ⟨m', hm', h'⟩; exact ⟨m', List.mem_cons_of_mem _ hm', h'⟩
      · rintro ⟨m', hm', h'⟩
        rcases List.mem_cons.1 hm' with rfl | hm'
        · exact absurd h' hn
        · exact ⟨m', hm', h'⟩
theorem endsI_some (l1 : List S62) (l2 : List S39) : ∀ (ss nx r : List Int), endsI l1 l2 ss nx = some r → (∀ x ∈ nx, x ∈ r) ∧ (∀ s ∈ ss, ∀ m ∈ l2, m.f1 = s → ∀ o ∈ m.f2, o.f1 ∈ r) ∧ (∀ x ∈ r, x ∈ nx ∨ ∃ s ∈ ss, ∃ m ∈ l2, m.f1 = s ∧ ∃ o ∈ m.f2, o.f1 = x)
  | [], nx, r, h => by cases h; exact ⟨fun x hx => hx, fun o ho => (by cases ho), fun x hx => .inl hx⟩
  | s :: ss, nx, r, h => by
    rw [endsI] at h
    cases hq : endsM l1 s l2 nx with
    | none => rw [hq] at h; cases h
    | some r1 =>
      rw [hq, Option.bind_some] at h
      obtain ⟨a1, a2, a3⟩ := endsM_some l1 s l2 nx r1 hq
      obtain ⟨h1, h2, h3⟩ := endsI_some l1 l2 ss r1 r h
      refine ⟨fun x hx => h1 x (a1 x hx), fun s' hs' m hm he o ho => ?_, fun x hx => ?_⟩
      · rcases List.mem_cons.1 hs' with rfl | hs'
        · exact h1 _ (a2 m hm he o ho)
        · exact h2 s' hs' m hm he o ho
      · rcases h3 x hx with h | ⟨s', hs', h⟩
        · rcases a3 x h with h | h
          · exact .inl h
          · exact .inr ⟨s, List.mem_cons_self, h⟩
        · exact .inr ⟨s', List.mem_cons_of_mem _ hs', h⟩

/-- Sound: what Ends finds can be reached. -/
theorem endsK_sound (l1 : List S62) (l2 : List S39) (hin : InAll l1 l2) : ∀ (k : Nat) (set : List Int), (∀ x ∈ set, 0 ≤ x ∧ x < l1.length) → endsK l1 l2 k set = true → ∃ s ∈ set, ∃ q, reachN l1 l2 q s.toNat = true
  | 0, set, _, h => by simp [endsK] at h
  | k + 1, set, hs, h => by
    rw [endsK] at h
    cases hq : endsI l1 l2 set set with
    | none =>
      obtain ⟨s, hs', m, hm, he, o, ho, hf⟩ := (endsI_none l1 l2 set set).1 hq
      refine ⟨s, hs', 1, ?_⟩
      have h0 := hs s hs'
      have hio := hin m hm o ho
      have hf' : reachN l1 l2 0 o.f1.toNat = true := by
        show (rd_T62 l1 ((o.f1.toNat : Nat) : Int)).f1 = true
        rw [Int.toNat_of_nonneg hio.1]; exact hf
      simp only [reachN, Bool.or_eq_true, List.any_eq_true]
      right
      refine ⟨m, hm, ?_⟩
      rw [Bool.and_eq_true, List.any_eq_true]
      exact ⟨by rw [Int.toNat_of_nonneg h0.1, he]; simp, o, ho, hf'⟩
    | some nx =>
      rw [hq] at h
      obtain ⟨h1, h2, h3⟩ := endsI_some l1 l2 set set nx hq
      have hnx : ∀ x ∈ nx, 0 ≤ x ∧ x < l1.length := fun x hx => by
        rcases h3 x hx with h | ⟨s, _, m, hm, _, o, ho, rfl⟩
        · exact hs x h
        · exact hin m hm o ho
      obtain ⟨t, ht, q, hq'⟩ := endsK_sound l1 l2 hin k nx hnx h
      rcases h3 t ht with h4 | ⟨s, hs', m, hm, he, o, ho, rfl⟩
      · exact ⟨t, h4, q, hq'⟩
      · refine ⟨s, hs', q + 1, ?_⟩
        simp only [reachN, Bool.or_eq_true, List.any_eq_true]
        right
        refine ⟨m, hm, ?_⟩
        rw [Bool.and_eq_true, List.any_eq_true]
        exact ⟨by rw [Int.toNat_of_nonneg (hs s hs').1, he]; simp, o, ho, hq'⟩
/-- Complete: what can be reached in so many steps it finds. -/
theorem endsK_complete (l1 : List S62) (l2 : List S39) (hin : InAll l1 l2) : ∀ (k : Nat) (set : List Int), (∀ x ∈ set, 0 ≤ x ∧ x < l1.length) → (∀ x ∈ set, (rd_T62 l1 x).f1 = false) → (∃ s ∈ set, reachN l1 l2 k s.toNat = true) → endsK l1 l2 k set = true
  | 0, set, hs, hf, ⟨s, h1, h2⟩ => by
    have : (rd_T62 l1 ((s.toNat : Nat) : Int)).f1 = true := h2
    rw [Int.toNat_of_nonneg (hs s h1).1, hf s h1] at this
    cases this
  | k + 1, set, hs, hf, ⟨s, h1, h2⟩ => by
    rw [endsK]
    cases hq : endsI l1 l2 set set with
    | none => rfl
    | some nx =>
      show endsK l1 l2 k nx = true
      obtain ⟨a1, a2, a3⟩ := endsI_some l1 l2 set set nx hq
      have hn : ¬ ∃ s ∈ set, ∃ m ∈ l2, m.f1 = s ∧ ∃ o ∈ m.f2, (rd_T62 l1 o.f1).f1 = true := fun hh => by have := (endsI_none l1 l2 set set).2 hh; rw [this] at hq; cases hq
      refine endsK_complete l1 l2 hin k nx (fun x hx => ?_) (fun x hx => ?_) ?_
      · rcases a3 x hx with h | ⟨s, _, m, hm, _, o, ho, rfl⟩
        · exact hs x h
        · exact hin m hm o ho
      · rcases a3 x hx with h | ⟨s, hs', m, hm, he, o, ho, rfl⟩
        · exact hf x h
        · cases hc : (rd_T62 l1 o.f1).f1 with
          | true => exact absurd ⟨s, hs', m, hm, he, o, ho, hc⟩ hn
          | false => rfl
      · simp only [reachN, Bool.or_eq_true, List.any_eq_true] at h2
        rcases h2 with h2 | ⟨m, hm, h2⟩
        · exact ⟨s, a1 s h1, h2⟩
        · rw [Bool.and_eq_true, List.any_eq_true] at h2
          obtain ⟨he, o, ho, hr⟩ := h2
          rw [Int.toNat_of_nonneg (hs s h1).1] at he
          exact ⟨o.f1, a2 s h1 m hm (by simpa using he) o ho, hr⟩
theorem endsB_iff (l1 : List S62) (l2 : List S39) (hin : InAll l1 l2) (i : Nat) (hi : i < l1.length) : endsB l1 l2 i = true ↔ ∃ q, reachN l1 l2 q i = true := by
  unfold endsB
  by_cases hf : (rd_T62 l1 i).f1 = true
  · rw [if_pos hf]; exact ⟨fun _ => ⟨0, hf⟩, fun _ => rfl⟩
  · rw [if_neg hf]
    have hset : ∀ x ∈ [(i : Int)], 0 ≤ x ∧ x < l1.length := fun x hx => by simp at hx; omega
    constructor
    · intro h
      obtain ⟨s, hs, q, hq⟩ := endsK_sound l1 l2 hin _ _ hset h
      simp at hs; subst hs
      exact ⟨q, by simpa using hq⟩
    · rintro ⟨q, hq⟩
      exact endsK_complete l1 l2 hin _ _ hset (fun x hx => by simp at hx; subst hx; simpa using hf) ⟨i, by simp, by simpa using reach_n l1 l2 hin q i hi hq⟩
end Go.Proofs.Ytkgcfgoaabkcpaa.Pa
