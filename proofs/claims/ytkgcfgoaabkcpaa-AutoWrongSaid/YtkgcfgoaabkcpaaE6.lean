import Derived.Test.YtkgcfgoaabkcpaaE5
import Derived.Test.YtkgcfgoaabkcpaaPa7
import Derived.Test.YtkgcfgoaabkcpaaPa8
namespace Go.Proofs.Ytkgcfgoaabkcpaa.Pa
open Go.RowKit Go.Proofs.YtkgcfgoaabkcpaaW.PrintWords Go.Proofs.YtkgcfgoaabkcpaaW.PrintLast Go.Proofs.YtkgcfgoaabkcpaaW.PrintMore
set_option linter.unusedVariables false
set_option linter.unusedSimpArgs false

theorem wrap_succ {i : Nat} (h : i ≤ 4611686018427387904) : wrap64 ((i : Int) + 1) = ((i + 1 : Nat) : Int) := by unfold wrap64; omega
theorem rd42_at {l : List S42} {i : Nat} (h : i < l.length) : rd_T42 l (i : Int) = l[i] := by unfold rd_T42; simp [List.getD_eq_getElem?_getD, h]
theorem rd39_at {l : List S39} {i : Nat} (h : i < l.length) : rd_T39 l (i : Int) = l[i] := by unfold rd_T39; simp [List.getD_eq_getElem?_getD, h]
theorem rd62_at {l : List S62} {i : Nat} (h : i < l.length) : rd_T62 l (i : Int) = l[i] := by unfold rd_T62; simp [List.getD_eq_getElem?_getD, h]

/-! ### fit -/
def fitB (n : Nat) (m1 : Int) (m2 : List S42) : Bool := inB n m1 && decide (0 < m2.length) && !(m2.any fun o => !inB n o.f1)
theorem in_f (a0 : ByteArray) (l1 : List S62) (l2 : List S39) (i : Int) : ballcockref09_in.f a0 l1 l2 i = some (inB l1.length i) := by
  unfold ballcockref09_in.f inB
  by_cases h : 0 ≤ i
  · rw [if_pos h]; simp [h]
  · rw [if_neg h]; simp [h]
theorem fit_l (a0 : ByteArray) (l1 : List S62) (l2 : List S39) (m0 : ByteArray) (m1 : Int) (m2 : List S42) (hl : m2.length ≤ 4611686018427387904) : ∀ (d k i : Nat), i + d = m2.length → d < k →
    ballcockref09_fit.l0 k i a0 l1 l2 m0 m1 m2 = some (inB l1.length m1 && decide (0 < m2.length) && !((m2.drop i).any fun o => !inB l1.length o.f1)) := by
  intro d
  induction d with
  | zero =>
    intro k i hi hk
    obtain ⟨k, rfl⟩ : ∃ m, k = m + 1 := ⟨k - 1, by omega⟩
    simp only [ballcockref09_fit.l0]
    rw [if_neg (by omega), in_f, List.drop_of_length_le (by omega)]
    simp only [Option.bind_some, List.any_nil, Bool.not_false, Bool.and_true]
    cases h : inB l1.length m1 with
    | true =>
      rw [if_pos rfl, Bool.true_and]
      congr 1
      exact decide_eq_decide.mpr (by omega)
    | false => rw [if_neg (by simp), Bool.false_and]
  | succ d ih =>
    intro k i hi hk
    obtain ⟨k, rfl⟩ : ∃ m, k = m + 1 := ⟨k - 1, by omega⟩
    simp only [ballcockref09_fit.l0]
    have hlt : i < m2.length := by omega
    rw [if_pos (by omega), if_pos (by omega), in_f, List.drop_eq_getElem_cons hlt, rd42_at hlt]
    simp only [Option.bind_some, List.any_cons]
    cases h : inB l1.length (m2[i]).f1 with
    | true => rw [if_pos rfl, wrap_succ (by omega), ih k (i + 1) (by omega) (by omega)]; simp
    | false => rw [if_neg (by simp)]; simp
theorem fit_f (a0 : ByteArray) (l1 : List S62) (l2 : List S39) (m0 : ByteArray) (m1 : Int) (m2 : List S42) (hl : m2.length ≤ 4611686018427387904) :
    ballcockref09_fit.f (m2.length + 1) a0 l1 l2 m0 m1 m2 = some (fitB l1.length m1 m2) :=
  fit_l a0 l1 l2 m0 m1 m2 hl m2.length (m2.length + 1) 0 (by omega) (by omega)

/-! ### again -/
theorem Ev.pos {α : Type} {c : Prop} [Decidable c] {A B : Nat → Option α} {r : α} (h : c) (k : Ev A r) : Ev (fun n => if c then A n else B n) r := Ev.congr (fun n => if_pos h) k
theorem Ev.neg {α : Type} {c : Prop} [Decidable c] {A B : Nat → Option α} {r : α} (h : ¬ c) (k : Ev B r) : Ev (fun n => if c then A n else B n) r := Ev.congr (fun n => if_neg h) k
theorem Ev.cast {α : Type} {g : Nat → Option α} {r r' : α} (k : Ev g r) (h : r = r') : Ev g r' := h ▸ k

theorem range_any_drop (n i : Nat) (p : Nat → Bool) (h : i < n) : ((List.range n).drop i).any p = (p i || ((List.range n).drop (i + 1)).any p) := by
  rw [List.drop_eq_getElem_cons (by simpa using h), List.any_cons]; simp
theorem again_l2 (x : Nat) (m0 : ByteArray) (m1 : Int) (m2 : List S42) (hl : m2.length ≤ 4611686018427387904) (hx : x < m2.length) (r : Bool)
    (hr : Ev (fun k => ballcockref09_again.l1 k ((x + 1 : Nat) : Int) m0 m1 m2) r) : ∀ (d i : Nat), i + d = x →
    Ev (fun k => ballcockref09_again.l2 k x i m0 m1 m2) (((List.range x).drop i).any (fun q => (rd_T42 m2 q).f0.toList == (rd_T42 m2 x).f0.toList) || r) := by
  intro d
  induction d with
  | zero =>
    intro i hi
    refine Ev.step (fun k => ballcockref09_again.l2.eq_2 _ _ _ _ _ k) (Ev.neg (by omega) ?_)
    rw [wrap_succ (by omega), List.drop_of_length_le (by simp; omega)]
    simpa using hr
  | succ d ih =>
    intro i hi
    refine Ev.step (fun k => ballcockref09_again.l2.eq_2 _ _ _ _ _ k) (Ev.pos (by omega) (Ev.pos (by omega) (Ev.pos (by omega) (Ev.pos (by omega) (Ev.pos (by omega) ?_)))))
    rw [range_any_drop x i _ (by omega)]
    by_cases h : (rd_T42 m2 x).f0.toList = (rd_T42 m2 i).f0.toList
    · refine Ev.pos h (Ev.cast (Ev.now true) ?_)
      simp [h]
    · refine Ev.neg h ?_
      rw [wrap_succ (by omega)]
      refine Ev.cast (ih (i + 1) (by omega)) ?_
      have : ((rd_T42 m2 i).f0.toList == (rd_T42 m2 x).f0.toList) = false := by simpa using fun e => h e.symm
      rw [this, Bool.false_or]
theorem again_l1 (m0 : ByteArray) (m1 : Int) (m2 : List S42) (hl : m2.length ≤ 4611686018427387904) : ∀ (d x : Nat), x + d = m2.length →
    Ev (fun k => ballcockref09_again.l1 k (x : Int) m0 m1 m2) (((List.range m2.length).drop x).any (dupAt fun q => (rd_T42 m2 q).f0)) := by
  intro d
  induction d with
  | zero =>
    intro x hx
    refine Ev.step (fun k => ballcockref09_again.l1.eq_2 _ _ _ _ k) (Ev.neg (by omega) (Ev.cast (Ev.now false) ?_))
    rw [List.drop_of_length_le (by simp; omega)]; rfl
  | succ d ih =>
    intro x hx
    refine Ev.step (fun k => ballcockref09_again.l1.eq_2 _ _ _ _ k) (Ev.pos (by omega) ?_)
    refine Ev.cast (again_l2 x m0 m1 m2 hl (by omega) _ (ih (x + 1) (by omega)) x 0 (by omega)) ?_
    rw [range_any_drop m2.length x _ (by omega), List.drop_zero]
    rfl
theorem again_l0 (a0 : ByteArray) (l1 : List S62) (l2 : List S39) (m0 : ByteArray) (m1 : Int) (m2 : List S42) (hl : m2.length ≤ 4611686018427387904) (hl2 : l2.length ≤ 4611686018427387904) (at0 : Nat) (hat : at0 < l2.length) : ∀ (d i : Nat), i + d = at0 →
    Ev (fun k => ballcockref09_again.l0 k at0 i a0 l1 l2 m0 m1 m2) (((l2.take at0).drop i).any (sameMv m0 m1) || (List.range m2.length).any (dupAt fun q => (rd_T42 m2 q).f0)) := by
  intro d
  induction d with
  | zero =>
    intro i hi
    refine Ev.step (fun k => ballcockref09_again.l0.eq_2 _ _ _ _ _ _ _ _ k) (Ev.neg (by omega) ?_)
    rw [List.drop_of_length_le (by simp; omega)]
    refine Ev.cast (again_l1 m0 m1 m2 hl m2.length 0 (by omega)) ?_
    rw [List.drop_zero]; rfl
  | succ d ih =>
    intro i hi
    refine Ev.step (fun k => ballcockref09_again.l0.eq_2 _ _ _ _ _ _ _ _ k) (Ev.pos (by omega) (Ev.pos (by omega) (Ev.pos (by omega) ?_)))
    have hil : i < (l2.take at0).length := by simp; omega
    have hg : rd_T39 l2 (i : Int) = (l2.take at0)[i] := by rw [rd39_at (by omega)]; simp
    rw [List.drop_eq_getElem_cons hil, List.any_cons, hg]
    generalize (l2.take at0)[i] = y
    by_cases h : y.f0.toList = m0.toList
    · refine Ev.pos h ?_
      by_cases h' : y.f1 = m1
      · refine Ev.pos h' (Ev.cast (Ev.now true) ?_)
        have : sameMv m0 m1 y = true := by unfold sameMv; simp [h, h']
        rw [this]; rfl
      · refine Ev.neg h' ?_
        rw [wrap_succ (by omega)]
        refine Ev.cast (ih (i + 1) (by omega)) ?_
        have : sameMv m0 m1 y = false := by unfold sameMv; simp [h, h']
        rw [this, Bool.false_or]
    · refine Ev.neg h ?_
      rw [wrap_succ (by omega)]
      refine Ev.cast (ih (i + 1) (by omega)) ?_
      have : sameMv m0 m1 y = false := by unfold sameMv; simp [h]
      rw [this, Bool.false_or]
theorem onceB_eq (l2 : List S39) (i : Nat) (m0 : ByteArray) (m1 : Int) (m2 : List S42) : onceB l2 i m0 m1 m2 = !((l2.take i).any (sameMv m0 m1) || (List.range m2.length).any (dupAt fun q => (rd_T42 m2 q).f0)) := by
  unfold onceB twiceF
  rw [Bool.not_or]
  congr 1
  have h := idxP_ge' (dupAt fun q => (rd_T42 m2 q).f0) (List.range m2.length)
  cases hx : (List.range m2.length).any (dupAt fun q => (rd_T42 m2 q).f0) with
  | true => exact decide_eq_false (by have := h.mpr hx; omega)
  | false => exact decide_eq_true (by
      by_cases h0 : idxP (dupAt fun q => (rd_T42 m2 q).f0) (List.range m2.length) < 0
      · exact h0
      · have := h.mp (by omega); rw [hx] at this; cases this)
/-- again, told as once is. -/
def againB (l2 : List S39) (i : Nat) : Bool := !onceB l2 i (rd_T39 l2 i).f0 (rd_T39 l2 i).f1 (rd_T39 l2 i).f2
theorem again_f (a0 : ByteArray) (l1 : List S62) (l2 : List S39) (i : Nat) (hi : i < l2.length) (hl2 : l2.length ≤ 4611686018427387904) (hl : (rd_T39 l2 i).f2.length ≤ 4611686018427387904) :
    ∃ k, ballcockref09_again.f k a0 l1 l2 i = some (againB l2 i) := by
  have h := again_l0 a0 l1 l2 (rd_T39 l2 i).f0 (rd_T39 l2 i).f1 (rd_T39 l2 i).f2 hl hl2 i hi i 0 (by omega)
  obtain ⟨k, hk⟩ := h.rounds
  refine ⟨k, ?_⟩
  unfold ballcockref09_again.f againB
  rw [if_pos (by omega), if_pos (by omega), onceB_eq, Bool.not_not]
  exact hk
end Go.Proofs.Ytkgcfgoaabkcpaa.Pa
