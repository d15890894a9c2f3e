import Derived.Test.YtkgcfgoaabkcpaaE9
namespace Go.Proofs.Ytkgcfgoaabkcpaa.Pa
open Go.RowKit Go.Proofs.YtkgcfgoaabkcpaaW.PrintWords Go.Proofs.YtkgcfgoaabkcpaaW.PrintLast Go.Proofs.YtkgcfgoaabkcpaaW.PrintMore
set_option linter.unusedVariables false
set_option linter.unusedSimpArgs false

theorem wfFrom_hit_eq {l1 : List S62} {l2 : List S39} {kd i : Nat} (h2 : 2 ≤ kd) (h4 : kd ≤ 4) (hi : i < l2.length) (hp : badK l1 l2 kd i = true) (hb : ∀ j, j < i → badK l1 l2 kd j = false) : wfFrom l1 l2 (5 - kd) = ((kd : Int), (i : Int)) := by
  cases hR : wfFrom l1 l2 (5 - kd) with
  | mk R1 R2 =>
    obtain ⟨rfl, rfl⟩ := wfFrom_hit h2 h4 hi hp hb hR
    rfl
theorem wfFrom_next_eq {l1 : List S62} {l2 : List S39} {kd : Nat} (h2 : 2 ≤ kd) (h4 : kd ≤ 4) (hb : ∀ j, j < l2.length → badK l1 l2 kd j = false) : wfFrom l1 l2 (5 - kd) = wfFrom l1 l2 (5 - (kd + 1)) := by
  cases hR : wfFrom l1 l2 (5 - kd) with
  | mk R1 R2 => exact (wfFrom_next h2 h4 hb hR).symm

theorem wrong_l3 (l1 : List S62) (l2 : List S39) (E : Nat) (hE : E < 2 ^ 32) (hn : l1.length ≤ 16) (hb : ∀ j, j < l1.length → (E.testBit j = true ↔ endsB l1 l2 j = true)) : ∀ (d i : Nat), i + d = l1.length → (∀ j, j < i → endsB l1 l2 j = true) →
    Ev (fun k => auto_Wrong.l3 k (E : Int) (l1.length : Int) (i : Int)) (wf5 l1 l2) := by
  intro d
  induction d with
  | zero =>
    intro i hi hh
    refine Ev.step (fun k => auto_Wrong.l3.eq_2 _ _ _ k) (Ev.neg (by omega) (Ev.cast (Ev.now _) ?_))
    unfold wf5
    rw [idxR_miss _ _ (fun j hj => by simp [hh j (by omega)]), if_neg (by omega)]
  | succ d ih =>
    intro i hi hh
    refine Ev.step (fun k => auto_Wrong.l3.eq_2 _ _ _ k) (Ev.pos (by omega) (Ev.pos (by omega) ?_))
    have hbi := hb i (by omega)
    cases he : endsB l1 l2 i with
    | true =>
      refine Ev.neg (fun h => by rw [bit_zero E i hE (by omega), hbi.2 he] at h; cases h) ?_
      rw [wrap_succ (by omega)]
      exact ih (i + 1) (by omega) (fun j hj => by
        by_cases e : j = i
        · subst e; exact he
        · exact hh j (by omega))
    | false =>
      have hf : E.testBit i = false := by
        cases h : E.testBit i with
        | true => rw [hbi.1 h] at he; cases he
        | false => rfl
      refine Ev.pos ((bit_zero E i hE (by omega)).2 hf) (Ev.cast (Ev.now _) ?_)
      unfold wf5
      rw [idxR_hit _ _ i (by omega) (by simp [he]) (fun j hj => by simp [hh j hj]), if_pos (by omega)]
theorem wrong_l2 (a0 : ByteArray) (l1 : List S62) (l2 : List S39) (hn : l1.length ≤ 16) (hf : Fits l1 l2) (hfit : AllFit l1 l2) : ∀ (d i : Nat), i + d = l2.length → (∀ j, j < i → badK l1 l2 4 j = false) →
    Ev (fun k => auto_Wrong.l2 k l2 (l2.length : Int) (i : Int) a0 l1 l2) (wfFrom l1 l2 (5 - 4)) := by
  intro d
  induction d with
  | zero =>
    intro i hi hh
    refine Ev.step (fun k => auto_Wrong.l2.eq_2 _ _ _ _ _ _ k) (Ev.neg (by omega) ?_)
    rw [wfFrom_next_eq (by omega) (by omega) (fun j hj => hh j (by omega))]
    obtain ⟨E, h1, h2, h3⟩ := ends_f a0 l1 l2 hn hf hfit
    exact Ev.bind (f := fun k t => auto_Wrong.l3 k t (l1.length : Int) 0) h3 (wrong_l3 l1 l2 E h1 hn h2 l1.length 0 (by omega) (fun j hj => absurd hj (Nat.not_lt_zero _)))
  | succ d ih =>
    intro i hi hh
    have hil : i < l2.length := by omega
    have hfr := hfit.from_ hil
    refine Ev.step (fun k => auto_Wrong.l2.eq_2 _ _ _ _ _ _ k) (Ev.pos (by omega) (Ev.pos (by omega) (Ev.pos (by omega) (Ev.pos hfr.1 (Ev.pos hfr.2 ?_)))))
    have hbad : badK l1 l2 4 i = (rd_T62 l1 (rd_T39 l2 i).f1).f1 := rfl
    by_cases h : (rd_T62 l1 (rd_T39 l2 i).f1).f1 = true
    · refine Ev.pos h (Ev.cast (Ev.now _) ?_)
      rw [wfFrom_hit_eq (by omega) (by omega) hil (hbad.trans h) hh]; rfl
    · refine Ev.neg h ?_
      rw [wrap_succ (by have := hf.2.1; omega)]
      exact ih (i + 1) (by omega) (fun j hj => by
        by_cases e : j = i
        · subst e; rw [hbad]; simpa using h
        · exact hh j (by omega))
theorem wrong_l1 (a0 : ByteArray) (l1 : List S62) (l2 : List S39) (hn : l1.length ≤ 16) (hf : Fits l1 l2) (hfit : AllFit l1 l2) : ∀ (d i : Nat), i + d = l2.length → (∀ j, j < i → badK l1 l2 3 j = false) →
    Ev (fun k => auto_Wrong.l1 k (l2.length : Int) (i : Int) a0 l1 l2) (wfFrom l1 l2 (5 - 3)) := by
  intro d
  induction d with
  | zero =>
    intro i hi hh
    refine Ev.step (fun k => auto_Wrong.l1.eq_2 _ _ _ _ _ k) (Ev.neg (by omega) ?_)
    rw [wfFrom_next_eq (by omega) (by omega) (fun j hj => hh j (by omega))]
    exact wrong_l2 a0 l1 l2 hn hf hfit l2.length 0 (by omega) (fun j hj => absurd hj (Nat.not_lt_zero _))
  | succ d ih =>
    intro i hi hh
    have hil : i < l2.length := by omega
    refine Ev.step (fun k => auto_Wrong.l1.eq_2 _ _ _ _ _ k) (Ev.pos (by omega) ?_)
    have ho : auto_once.f a0 l1 l2 (i : Int) = some (onceB l2 i (rd_T39 l2 i).f0 (rd_T39 l2 i).f1 (rd_T39 l2 i).f2) := by
      unfold auto_once.f; rw [if_pos ⟨by omega, by omega⟩]; rfl
    have hbad : badK l1 l2 3 i = !onceB l2 i (rd_T39 l2 i).f0 (rd_T39 l2 i).f1 (rd_T39 l2 i).f2 := rfl
    refine Ev.bind (g := fun _ => auto_once.f a0 l1 l2 (i : Int)) ⟨0, fun _ _ => ho⟩ ?_
    cases h : onceB l2 i (rd_T39 l2 i).f0 (rd_T39 l2 i).f1 (rd_T39 l2 i).f2 with
    | true =>
      refine Ev.pos rfl ?_
      rw [wrap_succ (by have := hf.2.1; omega)]
      exact ih (i + 1) (by omega) (fun j hj => by
        by_cases e : j = i
        · subst e; rw [hbad, h]; rfl
        · exact hh j (by omega))
    | false =>
      refine Ev.neg (by simp) (Ev.cast (Ev.now _) ?_)
      rw [wfFrom_hit_eq (by omega) (by omega) hil (by rw [hbad, h]; rfl) hh]; rfl
theorem wrong_l0 (a0 : ByteArray) (l1 : List S62) (l2 : List S39) (hn : l1.length ≤ 16) (hf : Fits l1 l2) : ∀ (d i : Nat), i + d = l2.length → (∀ j, j < i → badK l1 l2 2 j = false) →
    Ev (fun k => auto_Wrong.l0 k l2 (l2.length : Int) (i : Int) a0 l1 l2) (wfFrom l1 l2 (5 - 2)) := by
  intro d
  induction d with
  | zero =>
    intro i hi hh
    refine Ev.step (fun k => auto_Wrong.l0.eq_2 _ _ _ _ _ _ k) (Ev.neg (by omega) ?_)
    rw [wfFrom_next_eq (by omega) (by omega) (fun j hj => hh j (by omega))]
    have hfit : AllFit l1 l2 := allFit_next (kd := 2) (fun h => absurd h (by omega)) (by omega) (fun j hj => hh j (by omega))
    exact wrong_l1 a0 l1 l2 hn hf hfit l2.length 0 (by omega) (fun j hj => absurd hj (Nat.not_lt_zero _))
  | succ d ih =>
    intro i hi hh
    have hil : i < l2.length := by omega
    refine Ev.step (fun k => auto_Wrong.l0.eq_2 _ _ _ _ _ _ k) (Ev.pos (by omega) (Ev.pos (by omega) (Ev.pos (by omega) ?_)))
    have ho : auto_move.f a0 l1 l2 (rd_T39 l2 i).f0 (rd_T39 l2 i).f1 (rd_T39 l2 i).f2 = some (fitB l1.length (rd_T39 l2 i).f1 (rd_T39 l2 i).f2) := rfl
    have hbad : badK l1 l2 2 i = !fitB l1.length (rd_T39 l2 i).f1 (rd_T39 l2 i).f2 := rfl
    refine Ev.bind (g := fun _ => auto_move.f a0 l1 l2 (rd_T39 l2 i).f0 (rd_T39 l2 i).f1 (rd_T39 l2 i).f2) ⟨0, fun _ _ => ho⟩ ?_
    cases h : fitB l1.length (rd_T39 l2 i).f1 (rd_T39 l2 i).f2 with
    | true =>
      refine Ev.pos rfl ?_
      rw [wrap_succ (by have := hf.2.1; omega)]
      exact ih (i + 1) (by omega) (fun j hj => by
        by_cases e : j = i
        · subst e; rw [hbad, h]; rfl
        · exact hh j (by omega))
    | false =>
      refine Ev.neg (by simp) (Ev.cast (Ev.now _) ?_)
      rw [wfFrom_hit_eq (by omega) (by omega) hil (by rw [hbad, h]; rfl) hh]; rfl
/-- The program's Wrong and the reference's tell the same. -/
theorem wrong_f (a0 : ByteArray) (l1 : List S62) (l2 : List S39) (hf : Fits l1 l2) : ∃ k, auto_Wrong.f k a0 l1 l2 = some (wrongF l1 l2) := by
  unfold wrongF auto_Wrong.f auto_states.f
  by_cases h1 : l1.length < 1 ∨ 16 < l1.length
  · rw [if_pos h1, if_pos h1]
    exact ⟨0, rfl⟩
  · rw [if_neg h1, if_neg h1]
    unfold wf1
    by_cases h2 : 0 ≤ twiceF l1.length (fun i => (rd_T62 l1 i).f0)
    · refine ⟨0, ?_⟩
      rw [if_pos h2, Option.bind_some, if_pos h2]
    · rw [if_neg h2]
      obtain ⟨k, hk⟩ := (wrong_l0 a0 l1 l2 (by omega) hf l2.length 0 (by omega) (fun j hj => absurd hj (Nat.not_lt_zero _))).rounds
      refine ⟨k, ?_⟩
      rw [Option.bind_some, if_neg h2]
      exact hk
end Go.Proofs.Ytkgcfgoaabkcpaa.Pa
