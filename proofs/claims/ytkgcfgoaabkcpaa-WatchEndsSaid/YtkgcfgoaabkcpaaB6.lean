import Derived.Test.YtkgcfgoaabkcpaaB5
import Derived.Laws.BitsLemmas

/-! ## part E8 -/
namespace Go.Proofs.Ytkgcfgoaabkcpaa.Pa
open Go.RowKit Go.Proofs.YtkgcfgoaabkcpaaW.PrintWords Go.Proofs.YtkgcfgoaabkcpaaW.PrintLast Go.Proofs.YtkgcfgoaabkcpaaW.PrintMore
set_option linter.unusedVariables false
set_option linter.unusedSimpArgs false

/-! ### Bits -/
theorem wraps_u32 (n : Int) (h₀ : 0 ≤ n) (h₁ : n < 2 ^ 32) : IntKind.u32.wrap n = n := by rw [IntKind.wrap_u32]; omega
theorem and32 (a b : Nat) (ha : a < 2 ^ 32) (hb : b < 2 ^ 32) : Go.bits .and .u32 a b = ((a &&& b : Nat) : Int) := (bits_nat .u32 32 (by decide) wraps_u32 a b ha hb).1
theorem or32 (a b : Nat) (ha : a < 2 ^ 32) (hb : b < 2 ^ 32) : Go.bits .or .u32 a b = ((a ||| b : Nat) : Int) := (bits_nat .u32 32 (by decide) wraps_u32 a b ha hb).2
theorem shl1 (i : Nat) (hi : i < 32) : shl .u32 1 (i : Int) = ((2 ^ i : Nat) : Int) := by
  unfold shl
  rw [Int.one_mul, Int.toNat_natCast, show min i IntKind.u32.bits = i by simp [IntKind.bits]; omega]
  have h : (2 : Nat) ^ i < 2 ^ 32 := Nat.pow_lt_pow_right (by decide) hi
  rw [show ((2 : Int) ^ i) = ((2 ^ i : Nat) : Int) by simp]
  exact wraps_u32 _ (Int.natCast_nonneg _) (by exact_mod_cast h)
theorem shr32 (S i : Nat) (hi : i < 32) : shr .u32 (S : Int) (i : Int) = ((S / 2 ^ i : Nat) : Int) := by
  unfold shr
  rw [Int.toNat_natCast, show min i IntKind.u32.bits = i by simp [IntKind.bits]; omega]
  simp
theorem bit32 (S i : Nat) (hS : S < 2 ^ 32) (hi : i < 32) : Go.bits .and .u32 (shr .u32 (S : Int) (i : Int)) 1 = if S.testBit i then 1 else 0 := by
  rw [shr32 S i hi, show (1 : Int) = ((1 : Nat) : Int) by rfl, and32 _ _ (Nat.lt_of_le_of_lt (Nat.div_le_self _ _) hS) (by decide)]
  rw [Nat.and_one_is_mod, Nat.testBit_eq_decide_div_mod_eq]
  by_cases h : S / 2 ^ i % 2 = 1
  · simp [h]
  · have : S / 2 ^ i % 2 = 0 := by omega
    simp [this]
theorem bit_pos (S i : Nat) (hS : S < 2 ^ 32) (hi : i < 32) : (Go.bits .and .u32 (shr .u32 (S : Int) (i : Int)) 1 = 1) ↔ S.testBit i = true := by
  rw [bit32 S i hS hi]; cases S.testBit i <;> simp
theorem bit_zero (S i : Nat) (hS : S < 2 ^ 32) (hi : i < 32) : (Go.bits .and .u32 (shr .u32 (S : Int) (i : Int)) 1 = 0) ↔ S.testBit i = false := by
  rw [bit32 S i hS hi]; cases S.testBit i <;> simp
theorem orbit (S i : Nat) (hS : S < 2 ^ 32) (hi : i < 32) : Go.bits .or .u32 (S : Int) (shl .u32 1 (i : Int)) = ((S ||| 2 ^ i : Nat) : Int) := by
  rw [shl1 i hi]
  exact or32 _ _ hS (Nat.pow_lt_pow_right (by decide) hi)
theorem or_lt (S i : Nat) (hS : S < 2 ^ 32) (hi : i < 32) : S ||| 2 ^ i < 2 ^ 32 := Nat.or_lt_two_pow hS (Nat.pow_lt_pow_right (by decide) hi)
theorem test_or (S i j : Nat) : (S ||| 2 ^ i).testBit j = (S.testBit j || decide (i = j)) := by
  rw [Nat.testBit_or, Nat.testBit_two_pow]

/-! ### Reaching -/
def reachN (l1 : List S62) (l2 : List S39) : Nat → Nat → Bool
  | 0, i => (rd_T62 l1 i).f1
  | k + 1, i => reachN l1 l2 k i || l2.any (fun m => (m.f1 == (i : Int)) && m.f2.any (fun o => reachN l1 l2 k o.f1.toNat))
theorem reach_mono1 (l1 : List S62) (l2 : List S39) (k i : Nat) (h : reachN l1 l2 k i = true) : reachN l1 l2 (k + 1) i = true := by simp [reachN, h]
theorem reach_mono (l1 : List S62) (l2 : List S39) (k i d : Nat) (h : reachN l1 l2 k i = true) : reachN l1 l2 (k + d) i = true := by
  induction d with
  | zero => exact h
  | succ d ih => exact reach_mono1 _ _ _ _ ih
theorem reach_stable (l1 : List S62) (l2 : List S39) (hin : InAll l1 l2) (k : Nat) (h : ∀ j, j < l1.length → reachN l1 l2 (k + 1) j = reachN l1 l2 k j) : ∀ d j, j < l1.length → reachN l1 l2 (k + d) j = reachN l1 l2 k j := by
  intro d
  induction d with
  | zero => intro j _; rfl
  | succ d ih =>
    intro j hj
    rw [← h j hj]
    show (reachN l1 l2 (k + d) j || _) = (reachN l1 l2 k j || _)
    rw [ih j hj]
    congr 1
    rw [Bool.eq_iff_iff, List.any_eq_true, List.any_eq_true]
    have key : ∀ m ∈ l2, (m.f2.any fun o => reachN l1 l2 (k + d) o.f1.toNat) = (m.f2.any fun o => reachN l1 l2 k o.f1.toNat) := by
      intro m hm
      rw [Bool.eq_iff_iff, List.any_eq_true, List.any_eq_true]
      constructor
      · rintro ⟨o, ho, h1⟩
        have := hin m hm o ho
        exact ⟨o, ho, by rw [← ih _ (by omega)]; exact h1⟩
      · rintro ⟨o, ho, h1⟩
        have := hin m hm o ho
        exact ⟨o, ho, by rw [ih _ (by omega)]; exact h1⟩
    constructor
    · rintro ⟨m, hm, h1⟩
      exact ⟨m, hm, by simp only [Nat.add_eq] at h1; rw [key m hm] at h1; exact h1⟩
    · rintro ⟨m, hm, h1⟩
      exact ⟨m, hm, by simp only [Nat.add_eq]; rw [key m hm]; exact h1⟩

theorem filter_le {α : Type} (p q : α → Bool) : ∀ (l : List α), (∀ x ∈ l, p x = true → q x = true) → (l.filter p).length ≤ (l.filter q).length
  | [], _ => by simp
  | x :: l, h => by
    have ih := filter_le p q l (fun y hy => h y (List.mem_cons_of_mem _ hy))
    have hx := h x List.mem_cons_self
    rw [List.filter_cons, List.filter_cons]
    cases hp : p x <;> cases hq : q x <;> simp <;> first | omega | (rw [hp] at hx; simp [hq] at hx)
theorem filter_lt {α : Type} (p q : α → Bool) : ∀ (l : List α), (∀ x ∈ l, p x = true → q x = true) → (∃ x ∈ l, q x = true ∧ p x = false) → (l.filter p).length < (l.filter q).length
  | [], _, ⟨x, hx, _⟩ => by cases hx
  | x :: l, h, ⟨y, hy, hqy, hpy⟩ => by
    have hx := h x List.mem_cons_self
    rw [List.filter_cons, List.filter_cons]
    rcases List.mem_cons.1 hy with rfl | hy
    · have ih := filter_le p q l (fun y hy => h y (List.mem_cons_of_mem _ hy))
      rw [hqy, hpy]; simp; omega
    · have ih := filter_lt p q l (fun y hy => h y (List.mem_cons_of_mem _ hy)) ⟨y, hy, hqy, hpy⟩
      cases hp : p x <;> cases hq : q x <;> simp <;> first | omega | (rw [hp] at hx; simp [hq] at hx)

theorem reach_pigeon (l1 : List S62) (l2 : List S39) (hin : InAll l1 l2) : ∀ k, (∃ k' , k' < k ∧ ∀ j, j < l1.length → reachN l1 l2 (k' + 1) j = reachN l1 l2 k' j) ∨ k ≤ ((List.range l1.length).filter (reachN l1 l2 k)).length := by
  intro k
  induction k with
  | zero => right; omega
  | succ k ih =>
    rcases ih with ⟨k', h1, h2⟩ | ih
    · exact .inl ⟨k', by omega, h2⟩
    · by_cases hs : ∀ j, j < l1.length → reachN l1 l2 (k + 1) j = reachN l1 l2 k j
      · exact .inl ⟨k, by omega, hs⟩
      · right
        have : ∃ j, j < l1.length ∧ reachN l1 l2 (k + 1) j ≠ reachN l1 l2 k j := by
          apply Classical.byContradiction
          intro hn
          exact hs (fun j hj => Classical.byContradiction (fun h => hn ⟨j, hj, h⟩))
        obtain ⟨j, hj, hne⟩ := this
        have hlt := filter_lt (reachN l1 l2 k) (reachN l1 l2 (k + 1)) (List.range l1.length) (fun x _ hx => reach_mono1 _ _ _ _ hx) ⟨j, by simpa using hj, by
          cases h1 : reachN l1 l2 k j with
          | true => exact absurd ((reach_mono1 _ _ _ _ h1).trans h1.symm) hne
          | false => rw [h1] at hne; exact ⟨by simpa using hne, rfl⟩⟩
        omega
theorem reach_n (l1 : List S62) (l2 : List S39) (hin : InAll l1 l2) (k i : Nat) (hi : i < l1.length) (h : reachN l1 l2 k i = true) : reachN l1 l2 l1.length i = true := by
  rcases reach_pigeon l1 l2 hin (l1.length + 1) with ⟨k', h1, h2⟩ | h1
  · by_cases hk : k ≤ k'
    · have h3 := reach_mono l1 l2 k i (l1.length - k) h
      rw [show k + (l1.length - k) = l1.length by omega] at h3
      exact h3
    · have h3 := reach_stable l1 l2 hin k' h2 (k - k') i hi
      rw [show k' + (k - k') = k by omega, h] at h3
      have h4 := reach_mono l1 l2 k' i (l1.length - k') h3.symm
      rw [show k' + (l1.length - k') = l1.length by omega] at h4
      exact h4
  · have := List.length_filter_le (reachN l1 l2 (l1.length + 1)) (List.range l1.length)
    rw [List.length_range] at this
    omega

/-! ### The reference's Ends reaches just so -/
theorem endsO_none (l1 : List S62) : ∀ (os : List S42) (nx : List Int), endsO l1 os nx = none ↔ ∃ o ∈ os, (rd_T62 l1 o.f1).f1 = true
  | [], nx => by simp [endsO]
  | o :: os, nx => by
    rw [endsO]
    by_cases h : (rd_T62 l1 o.f1).f1 = true
    · rw [if_pos h]; simp [h]
    · rw [if_neg h, endsO_none l1 os]; simp [h]
theorem endsO_some (l1 : List S62) : ∀ (os : List S42) (nx r : List Int), endsO l1 os nx = some r → (∀ x ∈ nx, x ∈ r) ∧ (∀ o ∈ os, o.f1 ∈ r) ∧ (∀ x ∈ r, x ∈ nx ∨ ∃ o ∈ os, o.f1 = x)
  | [], nx, r, h => by cases h; exact ⟨fun x hx => hx, fun o ho => (by cases ho), fun x hx => .inl hx⟩
  | o :: os, nx, r, h => by
    rw [endsO] at h
    by_cases hf : (rd_T62 l1 o.f1).f1 = true
    · rw [if_pos hf] at h; cases h
    · rw [if_neg hf] at h
      obtain ⟨h1, h2, h3⟩ := endsO_some l1 os _ r h
      by_cases hc : nx.contains o.f1 = true
      · rw [if_pos hc] at h1 h3
        refine ⟨h1, fun q hq => ?_, fun x hx => ?_⟩
        · rcases List.mem_cons.1 hq with rfl | hq
          · exact h1 _ (by simpa using hc)
          · exact h2 q hq
        · rcases h3 x hx with h | ⟨q, hq, h⟩
          · exact .inl h
          · exact .inr ⟨q, List.mem_cons_of_mem _ hq, h⟩
      · rw [if_neg hc] at h1 h3
        refine ⟨fun x hx => h1 x (List.mem_append_left _ hx), fun q hq => ?_, fun x hx => ?_⟩
        · rcases List.mem_cons.1 hq with rfl | hq
          · exact h1 _ (List.mem_append_right _ (by simp))
          · exact h2 q hq
        · rcases h3 x hx with h | ⟨q, hq, h⟩
          · rcases List.mem_append.1 h with h | h
            · exact .inl h
            · simp at h; exact .inr ⟨o, List.mem_cons_self, h.symm⟩
          · exact .inr ⟨q, List.mem_cons_of_mem _ hq, h⟩
theorem endsM_none (l1 : List S62) (s : Int) : ∀ (ms : List S39) (nx : List Int), endsM l1 s ms nx = none ↔ ∃ m ∈ ms, m.f1 = s ∧ ∃ o ∈ m.f2, (rd_T62 l1 o.f1).f1 = true
  | [], nx => by simp [endsM]
  | m :: ms, nx => by
    rw [endsM]
    by_cases h : m.f1 = s
    · rw [if_pos h]
      cases hq : endsO l1 m.f2 nx with
      | none => have := (endsO_none l1 m.f2 nx).1 hq; simp [h]; exact .inl this
      | some r =>
        have hn : ¬ ∃ o ∈ m.f2, (rd_T62 l1 o.f1).f1 = true := fun hh => by have := (endsO_none l1 m.f2 nx).2 hh; rw [this] at hq; cases hq
        rw [Option.bind_some, endsM_none l1 s ms]
        constructor
        · rintro ⟨m', hm', h'⟩; exact ⟨m', List.mem_cons_of_mem _ hm', h'⟩
        · rintro ⟨m', hm', h'⟩
          rcases List.mem_cons.1 hm' with rfl | hm'
          · exact absurd h'.2 hn
          · exact ⟨m', hm', h'⟩
    · rw [if_neg h, endsM_none l1 s ms]
      constructor
      · rintro ⟨m', hm', h'⟩; exact ⟨m', List.mem_cons_of_mem _ hm', h'⟩
      · rintro ⟨m', hm', h'⟩
        rcases List.mem_cons.1 hm' with rfl | hm'
        · exact absurd h'.1 h
        · exact ⟨m', hm', h'⟩
theorem endsM_some (l1 : List S62) (s : Int) : ∀ (ms : List S39) (nx r : List Int), endsM l1 s ms nx = some r → (∀ x ∈ nx, x ∈ r) ∧ (∀ m ∈ ms, m.f1 = s → ∀ o ∈ m.f2, o.f1 ∈ r) ∧ (∀ x ∈ r, x ∈ nx ∨ ∃ m ∈ ms, m.f1 = s ∧ ∃ o ∈ m.f2, o.f1 = x)
  | [], nx, r, h => by cases h; exact ⟨fun x hx => hx, fun o ho => (by cases ho), fun x hx => .inl hx⟩
  | m :: ms, nx, r, h => by
    rw [endsM] at h
    by_cases hf : m.f1 = s
    · rw [if_pos hf] at h
      cases hq : endsO l1 m.f2 nx with
      | none => rw [hq] at h; cases h
      | some r1 =>
        rw [hq, Option.bind_some] at h
        obtain ⟨a1, a2, a3⟩ := endsO_some l1 m.f2 nx r1 hq
        obtain ⟨h1, h2, h3⟩ := endsM_some l1 s ms r1 r h
        refine ⟨fun x hx => h1 x (a1 x hx), fun m' hm' he o ho => ?_, fun x hx => ?_⟩
        · rcases List.mem_cons.1 hm' with rfl | hm'
          · exact h1 _ (a2 o ho)
          · exact h2 m' hm' he o ho
        · rcases h3 x hx with h | ⟨m', hm', h⟩
          · rcases a3 x h with h | ⟨o, ho, h⟩
            · exact .inl h
            · exact .inr ⟨m, List.mem_cons_self, hf, o, ho, h⟩
          · exact .inr ⟨m', List.mem_cons_of_mem _ hm', h⟩
    · rw [if_neg hf] at h
      obtain ⟨h1, h2, h3⟩ := endsM_some l1 s ms nx r h
      refine ⟨h1, fun m' hm' he o ho => ?_, fun x hx => ?_⟩
      · rcases List.mem_cons.1 hm' with rfl | hm'
        · exact absurd he hf
        · exact h2 m' hm' he o ho
      · rcases h3 x hx with h | ⟨m', hm', h⟩
        · exact .inl h
        · exact .inr ⟨m', List.mem_cons_of_mem _ hm', h⟩
theorem endsI_none (l1 : List S62) (l2 : List S39) : ∀ (ss nx : List Int), endsI l1 l2 ss nx = none ↔ ∃ s ∈ ss, ∃ m ∈ l2, m.f1 = s ∧ ∃ o ∈ m.f2, (rd_T62 l1 o.f1).f1 = true
  | [], nx => by simp [endsI]
  | s :: ss, nx => by
    rw [endsI]
    cases hq : endsM l1 s l2 nx with
    | none => have := (endsM_none l1 s l2 nx).1 hq; simp; exact .inl this
    | some r =>
      have hn : ¬ ∃ m ∈ l2, m.f1 = s ∧ ∃ o ∈ m.f2, (rd_T62 l1 o.f1).f1 = true := fun hh => by have := (endsM_none l1 s l2 nx).2 hh; rw [this] at hq; cases hq
      rw [Option.bind_some, endsI_none l1 l2 ss]
      constructor
      · rintro ⟨m', hm', h'⟩; exact ⟨m', List.mem_cons_of_mem _ hm', h'⟩
      · rintro ⟨m', hm', h'⟩
        rcases List.mem_cons.1 hm' with rfl | hm'
        · exact absurd h' hn
        · exact ⟨m', hm', h'⟩
theorem endsI_some (l1 : List S62) (l2 : List S39) : ∀ (ss nx r : List Int), endsI l1 l2 ss nx = some r → (∀ x ∈ nx, x ∈ r) ∧ (∀ s ∈ ss, ∀ m ∈ l2, m.f1 = s → ∀ o ∈ m.f2, o.f1 ∈ r) ∧ (∀ x ∈ r, x ∈ nx ∨ ∃ s ∈ ss, ∃ m ∈ l2, m.f1 = s ∧ ∃ o ∈ m.f2, o.f1 = x)
  | [], nx, r, h => by cases h; exact ⟨fun x hx => hx, fun o ho => (by cases ho), fun x hx => .inl hx⟩
  | s :: ss, nx, r, h => by
    rw [endsI] at h
    cases hq : endsM l1 s l2 nx with
    | none => rw [hq] at h; cases h
    | some r1 =>
      rw [hq, Option.bind_some] at h
      obtain ⟨a1, a2, a3⟩ := endsM_some l1 s l2 nx r1 hq
      obtain ⟨h1, h2, h3⟩ := endsI_some l1 l2 ss r1 r h
      refine ⟨fun x hx => h1 x (a1 x hx), fun s' hs' m hm he o ho => ?_, fun x hx => ?_⟩
      · rcases List.mem_cons.1 hs' with rfl | hs'
        · exact h1 _ (a2 m hm he o ho)
        · exact h2 s' hs' m hm he o ho
      · rcases h3 x hx with h | ⟨s', hs', h⟩
        · rcases a3 x h with h | h
          · exact .inl h
          · exact .inr ⟨s, List.mem_cons_self, h⟩
        · exact .inr ⟨s', List.mem_cons_of_mem _ hs', h⟩

/-- Sound: what Ends finds can be reached. -/
theorem endsK_sound (l1 : List S62) (l2 : List S39) (hin : InAll l1 l2) : ∀ (k : Nat) (set : List Int), (∀ x ∈ set, 0 ≤ x ∧ x < l1.length) → endsK l1 l2 k set = true → ∃ s ∈ set, ∃ q, reachN l1 l2 q s.toNat = true
  | 0, set, _, h => by simp [endsK] at h
  | k + 1, set, hs, h => by
    rw [endsK] at h
    cases hq : endsI l1 l2 set set with
    | none =>
      obtain ⟨s, hs', m, hm, he, o, ho, hf⟩ := (endsI_none l1 l2 set set).1 hq
      refine ⟨s, hs', 1, ?_⟩
      have h0 := hs s hs'
      have hio := hin m hm o ho
      have hf' : reachN l1 l2 0 o.f1.toNat = true := by
        show (rd_T62 l1 ((o.f1.toNat : Nat) : Int)).f1 = true
        rw [Int.toNat_of_nonneg hio.1]; exact hf
      simp only [reachN, Bool.or_eq_true, List.any_eq_true]
      right
      refine ⟨m, hm, ?_⟩
      rw [Bool.and_eq_true, List.any_eq_true]
      exact ⟨by rw [Int.toNat_of_nonneg h0.1, he]; simp, o, ho, hf'⟩
    | some nx =>
      rw [hq] at h
      obtain ⟨h1, h2, h3⟩ := endsI_some l1 l2 set set nx hq
      have hnx : ∀ x ∈ nx, 0 ≤ x ∧ x < l1.length := fun x hx => by
        rcases h3 x hx with h | ⟨s, _, m, hm, _, o, ho, rfl⟩
        · exact hs x h
        · exact hin m hm o ho
      obtain ⟨t, ht, q, hq'⟩ := endsK_sound l1 l2 hin k nx hnx h
      rcases h3 t ht with h4 | ⟨s, hs', m, hm, he, o, ho, rfl⟩
      · exact ⟨t, h4, q, hq'⟩
      · refine ⟨s, hs', q + 1, ?_⟩
        simp only [reachN, Bool.or_eq_true, List.any_eq_true]
        right
        refine ⟨m, hm, ?_⟩
        rw [Bool.and_eq_true, List.any_eq_true]
        exact ⟨by rw [Int.toNat_of_nonneg (hs s hs').1, he]; simp, o, ho, hq'⟩
/-- Complete: what can be reached in so many steps it finds. -/
theorem endsK_complete (l1 : List S62) (l2 : List S39) (hin : InAll l1 l2) : ∀ (k : Nat) (set : List Int), (∀ x ∈ set, 0 ≤ x ∧ x < l1.length) → (∀ x ∈ set, (rd_T62 l1 x).f1 = false) → (∃ s ∈ set, reachN l1 l2 k s.toNat = true) → endsK l1 l2 k set = true
  | 0, set, hs, hf, ⟨s, h1, h2⟩ => by
    have : (rd_T62 l1 ((s.toNat : Nat) : Int)).f1 = true := h2
    rw [Int.toNat_of_nonneg (hs s h1).1, hf s h1] at this
    cases this
  | k + 1, set, hs, hf, ⟨s, h1, h2⟩ => by
    rw [endsK]
    cases hq : endsI l1 l2 set set with
    | none => rfl
    | some nx =>
      show endsK l1 l2 k nx = true
      obtain ⟨a1, a2, a3⟩ := endsI_some l1 l2 set set nx hq
      have hn : ¬ ∃ s ∈ set, ∃ m ∈ l2, m.f1 = s ∧ ∃ o ∈ m.f2, (rd_T62 l1 o.f1).f1 = true := fun hh => by have := (endsI_none l1 l2 set set).2 hh; rw [this] at hq; cases hq
      refine endsK_complete l1 l2 hin k nx (fun x hx => ?_) (fun x hx => ?_) ?_
      · rcases a3 x hx with h | ⟨s, _, m, hm, _, o, ho, rfl⟩
        · exact hs x h
        · exact hin m hm o ho
      · rcases a3 x hx with h | ⟨s, hs', m, hm, he, o, ho, rfl⟩
        · exact hf x h
        · cases hc : (rd_T62 l1 o.f1).f1 with
          | true => exact absurd ⟨s, hs', m, hm, he, o, ho, hc⟩ hn
          | false => rfl
      · simp only [reachN, Bool.or_eq_true, List.any_eq_true] at h2
        rcases h2 with h2 | ⟨m, hm, h2⟩
        · exact ⟨s, a1 s h1, h2⟩
        · rw [Bool.and_eq_true, List.any_eq_true] at h2
          obtain ⟨he, o, ho, hr⟩ := h2
          rw [Int.toNat_of_nonneg (hs s h1).1] at he
          exact ⟨o.f1, a2 s h1 m hm (by simpa using he) o ho, hr⟩
theorem endsB_iff (l1 : List S62) (l2 : List S39) (hin : InAll l1 l2) (i : Nat) (hi : i < l1.length) : endsB l1 l2 i = true ↔ ∃ q, reachN l1 l2 q i = true := by
  unfold endsB
  by_cases hf : (rd_T62 l1 i).f1 = true
  · rw [if_pos hf]; exact ⟨fun _ => ⟨0, hf⟩, fun _ => rfl⟩
  · rw [if_neg hf]
    have hset : ∀ x ∈ [(i : Int)], 0 ≤ x ∧ x < l1.length := fun x hx => by simp at hx; omega
    constructor
    · intro h
      obtain ⟨s, hs, q, hq⟩ := endsK_sound l1 l2 hin _ _ hset h
      simp at hs; subst hs
      exact ⟨q, by simpa using hq⟩
    · rintro ⟨q, hq⟩
      exact endsK_complete l1 l2 hin _ _ hset (fun x hx => by simp at hx; subst hx; simpa using hf) ⟨i, by simp, by simpa using reach_n l1 l2 hin q i hi hq⟩
end Go.Proofs.Ytkgcfgoaabkcpaa.Pa


/-! ## part E9 -/
namespace Go.Proofs.Ytkgcfgoaabkcpaa.Pa
open Go.RowKit Go.Proofs.YtkgcfgoaabkcpaaW.PrintWords Go.Proofs.YtkgcfgoaabkcpaaW.PrintLast Go.Proofs.YtkgcfgoaabkcpaaW.PrintMore
set_option linter.unusedVariables false
set_option linter.unusedSimpArgs false

def GoodS (l1 : List S62) (l2 : List S39) (S : Nat) : Prop := ∀ j, S.testBit j = true → j < l1.length ∧ ∃ q, reachN l1 l2 q j = true
theorem GoodS.lt {l1 : List S62} {l2 : List S39} {S : Nat} (h : GoodS l1 l2 S) (hn : l1.length ≤ 16) : S < 2 ^ 32 :=
  Nat.lt_pow_two_of_testBit S (fun i hi => by
    cases hb : S.testBit i with
    | true => have := (h i hb).1; omega
    | false => rfl)
structure NextS (l1 : List S62) (l2 : List S39) (S : Nat) (g : Bool) (S' : Nat) (g' : Bool) : Prop where
  up : ∀ j, S.testBit j = true → S'.testBit j = true
  flag : g = true → g' = true
  good : GoodS l1 l2 S'
  same : g' = false → S' = S
  new : g = false → g' = true → ∃ j, S'.testBit j = true ∧ S.testBit j = false
theorem NextS.refl {l1 : List S62} {l2 : List S39} {S : Nat} {g : Bool} (h : GoodS l1 l2 S) : NextS l1 l2 S g S g :=
  ⟨fun _ h => h, fun h => h, h, fun _ => rfl, fun h h' => by rw [h] at h'; cases h'⟩
theorem NextS.trans {l1 : List S62} {l2 : List S39} {S S' S'' : Nat} {g g' g'' : Bool} (h : NextS l1 l2 S g S' g') (k : NextS l1 l2 S' g' S'' g'') : NextS l1 l2 S g S'' g'' := by
  refine ⟨fun j hj => k.up j (h.up j hj), fun hg => k.flag (h.flag hg), k.good, fun hg => ?_, fun h0 h1 => ?_⟩
  · have hg' : g' = false := by
      cases hh : g' with
      | true => have := k.flag hh; rw [hg] at this; cases this
      | false => rfl
    exact (k.same hg).trans (h.same hg')
  · cases hh : g' with
    | true =>
      obtain ⟨j, h2, h3⟩ := h.new h0 hh
      exact ⟨j, k.up j h2, h3⟩
    | false =>
      obtain ⟨j, h2, h3⟩ := k.new hh h1
      rw [h.same hh] at h3
      exact ⟨j, h2, h3⟩
theorem NextS.false_ {l1 : List S62} {l2 : List S39} {S S' : Nat} {g g' : Bool} (h : NextS l1 l2 S g S' g') (hg : g' = false) : g = false := by
  cases hh : g with
  | true => have := h.flag hh; rw [hg] at this; cases this
  | false => rfl

theorem ends_l2 (a0 : ByteArray) (l1 : List S62) (l2 : List S39) (hn : l1.length ≤ 16) (hl2 : l2.length ≤ 1000) (hfit : AllFit l1 l2) (m : Nat) (hm : m < l2.length) (hv2 : (rd_T39 l2 m).f2.length ≤ 1000) :
    ∀ (d i S : Nat) (g : Bool), i + d = (rd_T39 l2 m).f2.length → GoodS l1 l2 S →
    ∃ S' g', NextS l1 l2 S g S' g' ∧ (g' = false → ∀ o ∈ (rd_T39 l2 m).f2.drop i, S'.testBit o.f1.toNat = true → S'.testBit (rd_T39 l2 m).f1.toNat = true) ∧
      ∀ r, Ev (fun k => auto_ends.l1 k (S' : Int) g' l2 (l2.length : Int) ((m + 1 : Nat) : Int) a0 l1 l2) r → Ev (fun k => auto_ends.l2 k (S : Int) g l2 (l2.length : Int) (m : Int) (rd_T39 l2 m).f2 ((rd_T39 l2 m).f2.length : Int) (i : Int) a0 l1 l2 (rd_T39 l2 m).f0 (rd_T39 l2 m).f1 (rd_T39 l2 m).f2) r := by
  intro d
  induction d with
  | zero =>
    intro i S g hi hS
    refine ⟨S, g, NextS.refl hS, fun _ o ho => ?_, fun r hr => ?_⟩
    · rw [List.drop_of_length_le (by omega)] at ho; cases ho
    · refine Ev.step (fun k => auto_ends.l2.eq_2 _ _ _ _ _ _ _ _ _ _ _ _ _ _ k) (Ev.neg (by omega) ?_)
      rw [wrap_succ (by omega)]; exact hr
  | succ d ih =>
    intro i S g hi hS
    have hil : i < (rd_T39 l2 m).f2.length := by omega
    have hfr := hfit.from_ hm
    have hmem : rd_T42 (rd_T39 l2 m).f2 i ∈ (rd_T39 l2 m).f2 := rd42_mem hil
    have hto := hfit.inAll _ (rd39_mem hm) _ hmem
    have hSlt := hS.lt hn
    obtain ⟨x, hx⟩ := Int.eq_ofNat_of_zero_le hto.1
    obtain ⟨y, hy⟩ := Int.eq_ofNat_of_zero_le hfr.1
    have hx32 : x < 32 := by omega
    have hy32 : y < 32 := by omega
    have hstep : ∀ r (S1 : Nat) (g1 : Bool), (S.testBit x = true → S.testBit y = false → S1 = S ||| 2 ^ y ∧ g1 = true) → (S.testBit x = false ∨ S.testBit y = true → S1 = S ∧ g1 = g) →
        Ev (fun k => auto_ends.l2 k (S1 : Int) g1 l2 (l2.length : Int) (m : Int) (rd_T39 l2 m).f2 ((rd_T39 l2 m).f2.length : Int) ((i + 1 : Nat) : Int) a0 l1 l2 (rd_T39 l2 m).f0 (rd_T39 l2 m).f1 (rd_T39 l2 m).f2) r →
        Ev (fun k => auto_ends.l2 k (S : Int) g l2 (l2.length : Int) (m : Int) (rd_T39 l2 m).f2 ((rd_T39 l2 m).f2.length : Int) (i : Int) a0 l1 l2 (rd_T39 l2 m).f0 (rd_T39 l2 m).f1 (rd_T39 l2 m).f2) r := by
      intro r S1 g1 h1 h2 he
      refine Ev.step (fun k => auto_ends.l2.eq_2 _ _ _ _ _ _ _ _ _ _ _ _ _ _ k) (Ev.pos (by omega) (Ev.pos (by omega) (Ev.pos (by omega) (Ev.pos (by rw [hx]; omega) ?_))))
      rw [hx, hy] at *
      rw [wrap_succ (by omega)]
      cases hbx : S.testBit x with
      | false =>
        refine Ev.neg (fun h => by rw [bit_pos S x hSlt hx32, hbx] at h; cases h) ?_
        obtain ⟨rfl, rfl⟩ := h2 (.inl hbx)
        exact he
      | true =>
        refine Ev.pos ((bit_pos S x hSlt hx32).2 hbx) (Ev.pos (by omega) ?_)
        cases hby : S.testBit y with
        | false =>
          refine Ev.pos ((bit_zero S y hSlt hy32).2 hby) ?_
          obtain ⟨rfl, rfl⟩ := h1 hbx hby
          rw [orbit S y hSlt hy32]
          exact he
        | true =>
          refine Ev.neg (fun h => by rw [bit_zero S y hSlt hy32, hby] at h; cases h) ?_
          obtain ⟨rfl, rfl⟩ := h2 (.inr hby)
          exact he
    have hdrop := drop42 hil
    by_cases hc : S.testBit x = true ∧ S.testBit y = false
    · have hy' : y < l1.length := by omega
      obtain ⟨q, hq⟩ := (hS x hc.1).2
      have hreach : reachN l1 l2 (q + 1) y = true := by
        simp only [reachN, Bool.or_eq_true, List.any_eq_true]
        right
        refine ⟨rd_T39 l2 m, rd39_mem hm, ?_⟩
        rw [Bool.and_eq_true, List.any_eq_true]
        exact ⟨by rw [hy]; simp, _, hmem, by rw [hx]; simpa using hq⟩
      have hS1 : GoodS l1 l2 (S ||| 2 ^ y) := fun j hj => by
        rw [test_or, Bool.or_eq_true] at hj
        rcases hj with hj | hj
        · exact hS j hj
        · obtain rfl := of_decide_eq_true hj
          exact ⟨hy', _, hreach⟩
      have hn1 : NextS l1 l2 S g (S ||| 2 ^ y) true := ⟨fun j hj => by rw [test_or, hj, Bool.true_or], fun _ => rfl, hS1, fun h => (by cases h), fun _ _ => ⟨y, by rw [test_or]; simp, hc.2⟩⟩
      obtain ⟨S', g', h1, h2, h3⟩ := ih (i + 1) (S ||| 2 ^ y) true (by omega) hS1
      refine ⟨S', g', hn1.trans h1, fun hg => ?_, fun r hr => hstep r _ _ (fun _ _ => ⟨rfl, rfl⟩) (fun h => ?_) (h3 r hr)⟩
      · have := h1.flag rfl; rw [hg] at this; cases this
      · rcases h with h | h
        · rw [hc.1] at h; cases h
        · rw [hc.2] at h; cases h
    · obtain ⟨S', g', h1, h2, h3⟩ := ih (i + 1) S g (by omega) hS
      refine ⟨S', g', h1, fun hg o ho hb => ?_, fun r hr => hstep r S g (fun h h' => absurd ⟨h, h'⟩ hc) (fun _ => ⟨rfl, rfl⟩) (h3 r hr)⟩
      rw [hdrop] at ho
      rcases List.mem_cons.1 ho with rfl | ho
      · rw [h1.same hg] at hb ⊢
        rw [hx] at hb; rw [hy]
        simp only [Int.ofNat_eq_natCast, Int.toNat_natCast] at hb ⊢
        cases hby : S.testBit y with
        | true => rfl
        | false => exact absurd ⟨hb, hby⟩ hc
      · exact h2 hg o ho hb

theorem ends_l1 (a0 : ByteArray) (l1 : List S62) (l2 : List S39) (hn : l1.length ≤ 16) (hf : Fits l1 l2) (hfit : AllFit l1 l2) :
    ∀ (d m S : Nat) (g : Bool), m + d = l2.length → GoodS l1 l2 S →
    ∃ S' g', NextS l1 l2 S g S' g' ∧ (g' = false → ∀ v ∈ l2.drop m, ∀ o ∈ v.f2, S'.testBit o.f1.toNat = true → S'.testBit v.f1.toNat = true) ∧
      ∀ r, Ev (fun k => auto_ends.l0 k (S' : Int) g' a0 l1 l2) r → Ev (fun k => auto_ends.l1 k (S : Int) g l2 (l2.length : Int) (m : Int) a0 l1 l2) r := by
  intro d
  induction d with
  | zero =>
    intro m S g hm hS
    refine ⟨S, g, NextS.refl hS, fun _ v hv => ?_, fun r hr => ?_⟩
    · rw [List.drop_of_length_le (by omega)] at hv; cases hv
    · exact Ev.step (fun k => auto_ends.l1.eq_2 _ _ _ _ _ _ _ _ k) (Ev.neg (by omega) hr)
  | succ d ih =>
    intro m S g hm hS
    have hml : m < l2.length := by omega
    have hv2 : (rd_T39 l2 m).f2.length ≤ 1000 := hf.2.2 _ (rd39_mem hml)
    obtain ⟨S1, g1, h1, h2, h3⟩ := ends_l2 a0 l1 l2 hn hf.2.1 hfit m hml hv2 (rd_T39 l2 m).f2.length 0 S g (by omega) hS
    obtain ⟨S2, g2, k1, k2, k3⟩ := ih (m + 1) S1 g1 (by omega) h1.good
    refine ⟨S2, g2, h1.trans k1, fun hg v hv => ?_, fun r hr => ?_⟩
    · rw [drop39 hml] at hv
      have hg1 := k1.false_ hg
      rcases List.mem_cons.1 hv with rfl | hv
      · have := h2 hg1
        rw [List.drop_zero] at this
        rw [k1.same hg]; exact this
      · exact k2 hg v hv
    · refine Ev.step (fun k => auto_ends.l1.eq_2 _ _ _ _ _ _ _ _ k) (Ev.pos (by omega) (Ev.pos (by omega) (Ev.pos (by omega) ?_)))
      exact h3 r (k3 r hr)
def cntS (n S : Nat) : Nat := ((List.range n).filter fun j => !S.testBit j).length
theorem ends_l0 (a0 : ByteArray) (l1 : List S62) (l2 : List S39) (hn : l1.length ≤ 16) (hf : Fits l1 l2) (hfit : AllFit l1 l2) :
    ∀ (c S : Nat), cntS l1.length S ≤ c → GoodS l1 l2 S →
    ∃ E : Nat, GoodS l1 l2 E ∧ (∀ j, S.testBit j = true → E.testBit j = true) ∧ (∀ v ∈ l2, ∀ o ∈ v.f2, E.testBit o.f1.toNat = true → E.testBit v.f1.toNat = true) ∧ Ev (fun k => auto_ends.l0 k (S : Int) true a0 l1 l2) (E : Int) := by
  intro c
  induction c with
  | zero =>
    intro S hc hS
    obtain ⟨S', g', h1, h2, h3⟩ := ends_l1 a0 l1 l2 hn hf hfit l2.length 0 S false (by omega) hS
    cases hg : g' with
    | true =>
      obtain ⟨j, hj1, hj2⟩ := h1.new rfl hg
      have : cntS l1.length S' < cntS l1.length S := filter_lt _ _ _ (fun x _ hx => by
        simp only [Bool.not_eq_true'] at hx ⊢
        cases hb : S.testBit x with
        | true => rw [h1.up x hb] at hx; cases hx
        | false => rfl) ⟨j, by simpa using (h1.good j hj1).1, by simp [hj2], by simp [hj1]⟩
      omega
    | false =>
      have hs := h1.same hg
      subst hs
      refine ⟨S', hS, fun _ h => h, fun v hv => h2 hg v (by rw [List.drop_zero]; exact hv), ?_⟩
      refine Ev.step (fun k => auto_ends.l0.eq_2 _ _ _ _ _ k) (Ev.pos rfl ?_)
      refine h3 _ ?_
      rw [hg]
      exact Ev.step (fun k => auto_ends.l0.eq_2 _ _ _ _ _ k) (Ev.neg (by simp) (Ev.now _))
  | succ c ih =>
    intro S hc hS
    obtain ⟨S', g', h1, h2, h3⟩ := ends_l1 a0 l1 l2 hn hf hfit l2.length 0 S false (by omega) hS
    cases hg : g' with
    | true =>
      obtain ⟨j, hj1, hj2⟩ := h1.new rfl hg
      have hlt : cntS l1.length S' < cntS l1.length S := filter_lt _ _ _ (fun x _ hx => by
        simp only [Bool.not_eq_true'] at hx ⊢
        cases hb : S.testBit x with
        | true => rw [h1.up x hb] at hx; cases hx
        | false => rfl) ⟨j, by simpa using (h1.good j hj1).1, by simp [hj2], by simp [hj1]⟩
      obtain ⟨E, e1, e2, e3, e4⟩ := ih S' (by omega) h1.good
      refine ⟨E, e1, fun j hj => e2 j (h1.up j hj), e3, ?_⟩
      refine Ev.step (fun k => auto_ends.l0.eq_2 _ _ _ _ _ k) (Ev.pos rfl ?_)
      refine h3 _ ?_
      rw [hg]; exact e4
    | false =>
      have hs := h1.same hg
      subst hs
      refine ⟨S', hS, fun _ h => h, fun v hv => h2 hg v (by rw [List.drop_zero]; exact hv), ?_⟩
      refine Ev.step (fun k => auto_ends.l0.eq_2 _ _ _ _ _ k) (Ev.pos rfl ?_)
      refine h3 _ ?_
      rw [hg]
      exact Ev.step (fun k => auto_ends.l0.eq_2 _ _ _ _ _ k) (Ev.neg (by simp) (Ev.now _))

/-! ### Finals -/
def finS (l1 : List S62) : Nat → Nat
  | 0 => 0
  | i + 1 => if (rd_T62 l1 i).f1 = true then finS l1 i ||| 2 ^ i else finS l1 i
theorem finS_bit (l1 : List S62) : ∀ (n j : Nat), (finS l1 n).testBit j = (decide (j < n) && (rd_T62 l1 j).f1)
  | 0, j => by simp [finS]
  | n + 1, j => by
    rw [finS]
    by_cases h : (rd_T62 l1 n).f1 = true
    · rw [if_pos h, test_or, finS_bit l1 n j]
      by_cases e : n = j
      · subst e; simp [h]
      · have : decide (n = j) = false := by simpa using e
        rw [this, Bool.or_false]
        congr 1
        exact decide_eq_decide.mpr (by omega)
    · rw [if_neg h, finS_bit l1 n j]
      by_cases e : j = n
      · subst e
        simp only [Bool.not_eq_true] at h
        simp [h]
      · congr 1
        exact decide_eq_decide.mpr (by omega)
theorem finS_lt (l1 : List S62) (n : Nat) (hn : n ≤ 32) : finS l1 n < 2 ^ 32 := Nat.lt_pow_two_of_testBit _ (fun i hi => by rw [finS_bit]; simp; omega)
theorem finals_l0 (l1 : List S62) (hn : l1.length ≤ 16) : ∀ (d i : Nat), i + d = l1.length → Ev (fun k => auto_finals.l0 k (finS l1 i : Int) l1 (l1.length : Int) (i : Int)) (finS l1 l1.length : Int) := by
  intro d
  induction d with
  | zero =>
    intro i hi
    obtain rfl : i = l1.length := by omega
    exact Ev.step (fun k => auto_finals.l0.eq_2 _ _ _ _ k) (Ev.neg (by omega) (Ev.now _))
  | succ d ih =>
    intro i hi
    refine Ev.step (fun k => auto_finals.l0.eq_2 _ _ _ _ k) (Ev.pos (by omega) (Ev.pos (by omega) (Ev.pos (by omega) ?_)))
    have := ih (i + 1) (by omega)
    rw [wrap_succ (by omega)]
    by_cases h : (rd_T62 l1 i).f1 = true
    · refine Ev.pos h ?_
      rw [orbit _ i (finS_lt l1 i (by omega)) (by omega)]
      rw [finS, if_pos h] at this
      exact this
    · refine Ev.neg h ?_
      rw [finS, if_neg h] at this
      exact this
/-- What ends tells: bit by bit whether a final state can be reached. -/
theorem ends_f (a0 : ByteArray) (l1 : List S62) (l2 : List S39) (hn : l1.length ≤ 16) (hf : Fits l1 l2) (hfit : AllFit l1 l2) :
    ∃ E : Nat, E < 2 ^ 32 ∧ (∀ j, j < l1.length → (E.testBit j = true ↔ endsB l1 l2 j = true)) ∧ Ev (fun k => auto_ends.f k a0 l1 l2) (E : Int) := by
  have hin := hfit.inAll
  have hg0 : GoodS l1 l2 (finS l1 l1.length) := fun j hj => by
    rw [finS_bit, Bool.and_eq_true] at hj
    exact ⟨of_decide_eq_true hj.1, 0, hj.2⟩
  obtain ⟨E, e1, e2, e3, e4⟩ := ends_l0 a0 l1 l2 hn hf hfit _ (finS l1 l1.length) (Nat.le_refl _) hg0
  refine ⟨E, e1.lt hn, fun j hj => ?_, ?_⟩
  · rw [endsB_iff l1 l2 hin j hj]
    constructor
    · intro h; exact (e1 j h).2
    · rintro ⟨q, hq⟩
      induction q generalizing j with
      | zero =>
        exact e2 j (by rw [finS_bit, Bool.and_eq_true]; exact ⟨decide_eq_true hj, hq⟩)
      | succ q ih =>
        simp only [reachN, Bool.or_eq_true, List.any_eq_true] at hq
        rcases hq with hq | ⟨m, hm, hq⟩
        · exact ih j hj hq
        · rw [Bool.and_eq_true, List.any_eq_true] at hq
          obtain ⟨he, o, ho, hr⟩ := hq
          have hio := hin m hm o ho
          have := e3 m hm o ho (ih _ (by omega) hr)
          have he' : m.f1 = (j : Int) := by simpa using he
          rw [he'] at this
          simpa using this
  · exact Ev.bind (f := fun k t => auto_ends.l0 k t true a0 l1 l2) (finals_l0 l1 hn l1.length 0 (by omega)) e4
end Go.Proofs.Ytkgcfgoaabkcpaa.Pa


/-! ## part E10 -/
namespace Go.Proofs.Ytkgcfgoaabkcpaa.Pa
open Go.RowKit Go.Proofs.YtkgcfgoaabkcpaaW.PrintWords Go.Proofs.YtkgcfgoaabkcpaaW.PrintLast Go.Proofs.YtkgcfgoaabkcpaaW.PrintMore
set_option linter.unusedVariables false
set_option linter.unusedSimpArgs false

theorem wfFrom_hit_eq {l1 : List S62} {l2 : List S39} {kd i : Nat} (h2 : 2 ≤ kd) (h4 : kd ≤ 4) (hi : i < l2.length) (hp : badK l1 l2 kd i = true) (hb : ∀ j, j < i → badK l1 l2 kd j = false) : wfFrom l1 l2 (5 - kd) = ((kd : Int), (i : Int)) := by
  cases hR : wfFrom l1 l2 (5 - kd) with
  | mk R1 R2 =>
    obtain ⟨rfl, rfl⟩ := wfFrom_hit h2 h4 hi hp hb hR
    rfl
theorem wfFrom_next_eq {l1 : List S62} {l2 : List S39} {kd : Nat} (h2 : 2 ≤ kd) (h4 : kd ≤ 4) (hb : ∀ j, j < l2.length → badK l1 l2 kd j = false) : wfFrom l1 l2 (5 - kd) = wfFrom l1 l2 (5 - (kd + 1)) := by
  cases hR : wfFrom l1 l2 (5 - kd) with
  | mk R1 R2 => exact (wfFrom_next h2 h4 hb hR).symm

theorem wrong_l3 (l1 : List S62) (l2 : List S39) (E : Nat) (hE : E < 2 ^ 32) (hn : l1.length ≤ 16) (hb : ∀ j, j < l1.length → (E.testBit j = true ↔ endsB l1 l2 j = true)) : ∀ (d i : Nat), i + d = l1.length → (∀ j, j < i → endsB l1 l2 j = true) →
    Ev (fun k => auto_Wrong.l3 k (E : Int) (l1.length : Int) (i : Int)) (wf5 l1 l2) := by
  intro d
  induction d with
  | zero =>
    intro i hi hh
    refine Ev.step (fun k => auto_Wrong.l3.eq_2 _ _ _ k) (Ev.neg (by omega) (Ev.cast (Ev.now _) ?_))
    unfold wf5
    rw [idxR_miss _ _ (fun j hj => by simp [hh j (by omega)]), if_neg (by omega)]
  | succ d ih =>
    intro i hi hh
    refine Ev.step (fun k => auto_Wrong.l3.eq_2 _ _ _ k) (Ev.pos (by omega) (Ev.pos (by omega) ?_))
    have hbi := hb i (by omega)
    cases he : endsB l1 l2 i with
    | true =>
      refine Ev.neg (fun h => by rw [bit_zero E i hE (by omega), hbi.2 he] at h; cases h) ?_
      rw [wrap_succ (by omega)]
      exact ih (i + 1) (by omega) (fun j hj => by
        by_cases e : j = i
        · subst e; exact he
        · exact hh j (by omega))
    | false =>
      have hf : E.testBit i = false := by
        cases h : E.testBit i with
        | true => rw [hbi.1 h] at he; cases he
        | false => rfl
      refine Ev.pos ((bit_zero E i hE (by omega)).2 hf) (Ev.cast (Ev.now _) ?_)
      unfold wf5
      rw [idxR_hit _ _ i (by omega) (by simp [he]) (fun j hj => by simp [hh j hj]), if_pos (by omega)]
theorem wrong_l2 (a0 : ByteArray) (l1 : List S62) (l2 : List S39) (hn : l1.length ≤ 16) (hf : Fits l1 l2) (hfit : AllFit l1 l2) : ∀ (d i : Nat), i + d = l2.length → (∀ j, j < i → badK l1 l2 4 j = false) →
    Ev (fun k => auto_Wrong.l2 k l2 (l2.length : Int) (i : Int) a0 l1 l2) (wfFrom l1 l2 (5 - 4)) := by
  intro d
  induction d with
  | zero =>
    intro i hi hh
    refine Ev.step (fun k => auto_Wrong.l2.eq_2 _ _ _ _ _ _ k) (Ev.neg (by omega) ?_)
    rw [wfFrom_next_eq (by omega) (by omega) (fun j hj => hh j (by omega))]
    obtain ⟨E, h1, h2, h3⟩ := ends_f a0 l1 l2 hn hf hfit
    exact Ev.bind (f := fun k t => auto_Wrong.l3 k t (l1.length : Int) 0) h3 (wrong_l3 l1 l2 E h1 hn h2 l1.length 0 (by omega) (fun j hj => absurd hj (Nat.not_lt_zero _)))
  | succ d ih =>
    intro i hi hh
    have hil : i < l2.length := by omega
    have hfr := hfit.from_ hil
    refine Ev.step (fun k => auto_Wrong.l2.eq_2 _ _ _ _ _ _ k) (Ev.pos (by omega) (Ev.pos (by omega) (Ev.pos (by omega) (Ev.pos hfr.1 (Ev.pos hfr.2 ?_)))))
    have hbad : badK l1 l2 4 i = (rd_T62 l1 (rd_T39 l2 i).f1).f1 := rfl
    by_cases h : (rd_T62 l1 (rd_T39 l2 i).f1).f1 = true
    · refine Ev.pos h (Ev.cast (Ev.now _) ?_)
      rw [wfFrom_hit_eq (by omega) (by omega) hil (hbad.trans h) hh]; rfl
    · refine Ev.neg h ?_
      rw [wrap_succ (by have := hf.2.1; omega)]
      exact ih (i + 1) (by omega) (fun j hj => by
        by_cases e : j = i
        · subst e; rw [hbad]; simpa using h
        · exact hh j (by omega))
theorem wrong_l1 (a0 : ByteArray) (l1 : List S62) (l2 : List S39) (hn : l1.length ≤ 16) (hf : Fits l1 l2) (hfit : AllFit l1 l2) : ∀ (d i : Nat), i + d = l2.length → (∀ j, j < i → badK l1 l2 3 j = false) →
    Ev (fun k => auto_Wrong.l1 k (l2.length : Int) (i : Int) a0 l1 l2) (wfFrom l1 l2 (5 - 3)) := by
  intro d
  induction d with
  | zero =>
    intro i hi hh
    refine Ev.step (fun k => auto_Wrong.l1.eq_2 _ _ _ _ _ k) (Ev.neg (by omega) ?_)
    rw [wfFrom_next_eq (by omega) (by omega) (fun j hj => hh j (by omega))]
    exact wrong_l2 a0 l1 l2 hn hf hfit l2.length 0 (by omega) (fun j hj => absurd hj (Nat.not_lt_zero _))
  | succ d ih =>
    intro i hi hh
    have hil : i < l2.length := by omega
    refine Ev.step (fun k => auto_Wrong.l1.eq_2 _ _ _ _ _ k) (Ev.pos (by omega) ?_)
    have ho : auto_once.f a0 l1 l2 (i : Int) = some (onceB l2 i (rd_T39 l2 i).f0 (rd_T39 l2 i).f1 (rd_T39 l2 i).f2) := by
      unfold auto_once.f; rw [if_pos ⟨by omega, by omega⟩]; rfl
    have hbad : badK l1 l2 3 i = !onceB l2 i (rd_T39 l2 i).f0 (rd_T39 l2 i).f1 (rd_T39 l2 i).f2 := rfl
    refine Ev.bind (g := fun _ => auto_once.f a0 l1 l2 (i : Int)) ⟨0, fun _ _ => ho⟩ ?_
    cases h : onceB l2 i (rd_T39 l2 i).f0 (rd_T39 l2 i).f1 (rd_T39 l2 i).f2 with
    | true =>
      refine Ev.pos rfl ?_
      rw [wrap_succ (by have := hf.2.1; omega)]
      exact ih (i + 1) (by omega) (fun j hj => by
        by_cases e : j = i
        · subst e; rw [hbad, h]; rfl
        · exact hh j (by omega))
    | false =>
      refine Ev.neg (by simp) (Ev.cast (Ev.now _) ?_)
      rw [wfFrom_hit_eq (by omega) (by omega) hil (by rw [hbad, h]; rfl) hh]; rfl
theorem wrong_l0 (a0 : ByteArray) (l1 : List S62) (l2 : List S39) (hn : l1.length ≤ 16) (hf : Fits l1 l2) : ∀ (d i : Nat), i + d = l2.length → (∀ j, j < i → badK l1 l2 2 j = false) →
    Ev (fun k => auto_Wrong.l0 k l2 (l2.length : Int) (i : Int) a0 l1 l2) (wfFrom l1 l2 (5 - 2)) := by
  intro d
  induction d with
  | zero =>
    intro i hi hh
    refine Ev.step (fun k => auto_Wrong.l0.eq_2 _ _ _ _ _ _ k) (Ev.neg (by omega) ?_)
    rw [wfFrom_next_eq (by omega) (by omega) (fun j hj => hh j (by omega))]
    have hfit : AllFit l1 l2 := allFit_next (kd := 2) (fun h => absurd h (by omega)) (by omega) (fun j hj => hh j (by omega))
    exact wrong_l1 a0 l1 l2 hn hf hfit l2.length 0 (by omega) (fun j hj => absurd hj (Nat.not_lt_zero _))
  | succ d ih =>
    intro i hi hh
    have hil : i < l2.length := by omega
    refine Ev.step (fun k => auto_Wrong.l0.eq_2 _ _ _ _ _ _ k) (Ev.pos (by omega) (Ev.pos (by omega) (Ev.pos (by omega) ?_)))
    have ho : auto_move.f a0 l1 l2 (rd_T39 l2 i).f0 (rd_T39 l2 i).f1 (rd_T39 l2 i).f2 = some (fitB l1.length (rd_T39 l2 i).f1 (rd_T39 l2 i).f2) := rfl
    have hbad : badK l1 l2 2 i = !fitB l1.length (rd_T39 l2 i).f1 (rd_T39 l2 i).f2 := rfl
    refine Ev.bind (g := fun _ => auto_move.f a0 l1 l2 (rd_T39 l2 i).f0 (rd_T39 l2 i).f1 (rd_T39 l2 i).f2) ⟨0, fun _ _ => ho⟩ ?_
    cases h : fitB l1.length (rd_T39 l2 i).f1 (rd_T39 l2 i).f2 with
    | true =>
      refine Ev.pos rfl ?_
      rw [wrap_succ (by have := hf.2.1; omega)]
      exact ih (i + 1) (by omega) (fun j hj => by
        by_cases e : j = i
        · subst e; rw [hbad, h]; rfl
        · exact hh j (by omega))
    | false =>
      refine Ev.neg (by simp) (Ev.cast (Ev.now _) ?_)
      rw [wfFrom_hit_eq (by omega) (by omega) hil (by rw [hbad, h]; rfl) hh]; rfl
/-- The program's Wrong and the reference's tell the same. -/
theorem wrong_f (a0 : ByteArray) (l1 : List S62) (l2 : List S39) (hf : Fits l1 l2) : ∃ k, auto_Wrong.f k a0 l1 l2 = some (wrongF l1 l2) := by
  unfold wrongF auto_Wrong.f auto_states.f
  by_cases h1 : l1.length < 1 ∨ 16 < l1.length
  · rw [if_pos h1, if_pos h1]
    exact ⟨0, rfl⟩
  · rw [if_neg h1, if_neg h1]
    unfold wf1
    by_cases h2 : 0 ≤ twiceF l1.length (fun i => (rd_T62 l1 i).f0)
    · refine ⟨0, ?_⟩
      rw [if_pos h2, Option.bind_some, if_pos h2]
    · rw [if_neg h2]
      obtain ⟨k, hk⟩ := (wrong_l0 a0 l1 l2 (by omega) hf l2.length 0 (by omega) (fun j hj => absurd hj (Nat.not_lt_zero _))).rounds
      refine ⟨k, ?_⟩
      rw [Option.bind_some, if_neg h2]
      exact hk
end Go.Proofs.Ytkgcfgoaabkcpaa.Pa

