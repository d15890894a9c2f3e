import Derived.Test.YtkgcfgoaabkcpaaG5
namespace Go.Proofs.Ytkgcfgoaabkcpaa.Pa
open Go.RowKit Go.Proofs.YtkgcfgoaabkcpaaW.PrintWords Go.Proofs.YtkgcfgoaabkcpaaW.PrintLast Go.Proofs.YtkgcfgoaabkcpaaW.PrintMore
set_option linter.unusedVariables false
set_option linter.unusedSimpArgs false

/-! ### Plain: what is told -/
theorem rdS_at {l : List ByteArray} {i : Nat} (h : i < l.length) : l.drop i = rdOf ByteArray.empty l i :: l.drop (i + 1) := by unfold rdOf; exact getD_drop h
theorem texts_l0 (l : List ByteArray) (hl : l.length ≤ 4611686018427387904) : ∀ (d i : Nat), i + d = l.length → Ev (fun k => ballcockref09_Texts.l0 k l l (i : Int)) true := by
  intro d
  induction d with
  | zero => intro i hi; exact Ev.step (fun k => ballcockref09_Texts.l0.eq_2 _ _ _ k) (Ev.neg (by omega) (Ev.now _))
  | succ d ih =>
    intro i hi
    refine Ev.step (fun k => ballcockref09_Texts.l0.eq_2 _ _ _ k) (Ev.pos (by omega) (Ev.pos (by omega) (Ev.pos (by omega) (Ev.pos rfl ?_))))
    rw [wrap_succ (by omega)]; exact ih (i + 1) (by omega)
theorem texts_f (l : List ByteArray) (hl : l.length ≤ 4611686018427387904) : Ev (fun k => ballcockref09_Texts.f k l l) true :=
  Ev.congr (fun k => if_pos rfl) (texts_l0 l hl l.length 0 (by omega))
theorem add_l0 (l : List ByteArray) (s : ByteArray) (hl : l.length ≤ 1000000000) : ∀ (d i : Nat), i + d = l.length → Ev (fun k => ballcockref09_add.l0 k l s (i : Int)) (if hasS (l.drop i) s = true then l else l ++ [s]) := by
  intro d
  induction d with
  | zero =>
    intro i hi
    refine Ev.step (fun k => ballcockref09_add.l0.eq_2 _ _ _ k) (Ev.neg (by omega) (Ev.pos (by omega) (Ev.cast (Ev.now _) ?_)))
    rw [List.drop_of_length_le (by omega), if_neg (by simp [hasS])]
  | succ d ih =>
    intro i hi
    refine Ev.step (fun k => ballcockref09_add.l0.eq_2 _ _ _ k) (Ev.pos (by omega) (Ev.pos (by omega) ?_))
    rw [rdS_at (show i < l.length by omega)]
    by_cases h : (rdOf ByteArray.empty l (i : Int)).toList = s.toList
    · refine Ev.pos h (Ev.cast (Ev.now _) ?_)
      rw [if_pos (by simp [hasS, h])]
    · refine Ev.neg h ?_
      rw [wrap_succ (by omega)]
      refine Ev.cast (ih (i + 1) (by omega)) ?_
      have : hasS (rdOf ByteArray.empty l (i : Int) :: l.drop (i + 1)) s = hasS (l.drop (i + 1)) s := by
        simp only [hasS, List.any_cons]
        have : (s.toList == (rdOf ByteArray.empty l (i : Int)).toList) = false := by simpa using fun e => h e.symm
        rw [this, Bool.false_or]
      rw [this]
theorem add_f (l : List ByteArray) (s : ByteArray) (hl : l.length ≤ 1000000000) : Ev (fun k => ballcockref09_add.f k l s) (addS l s) := by
  have := add_l0 l s hl l.length 0 (by omega)
  rw [List.drop_zero] at this
  exact this
theorem refOps_l0 (a0 : ByteArray) (l1 : List S62) (l2 : List S39) (hl : l2.length ≤ 1000) : ∀ (d i : Nat) (acc : List ByteArray), i + d = l2.length → acc.length ≤ i → Ev (fun k => ballcockref09_Ops.l0 k acc (i : Int) a0 l1 l2) (opsM (l2.drop i) acc) := by
  intro d
  induction d with
  | zero =>
    intro i acc hi ha
    refine Ev.step (fun k => ballcockref09_Ops.l0.eq_2 _ _ _ _ _ k) (Ev.neg (by omega) (Ev.cast (Ev.now _) ?_))
    rw [List.drop_of_length_le (by omega)]; rfl
  | succ d ih =>
    intro i acc hi ha
    refine Ev.step (fun k => ballcockref09_Ops.l0.eq_2 _ _ _ _ _ k) (Ev.pos (by omega) (Ev.pos (by omega) ?_))
    refine Ev.bind (add_f acc _ (by omega)) ?_
    rw [wrap_succ (by omega)]
    refine Ev.cast (ih (i + 1) _ (by omega) (by have := addS_len acc (rd_T39 l2 (i : Int)).f0; omega)) ?_
    rw [drop39 (show i < l2.length by omega), opsM]
theorem refOps_f (a0 : ByteArray) (l1 : List S62) (l2 : List S39) (hl : l2.length ≤ 1000) : ∃ k, ballcockref09_Ops.f k a0 l1 l2 = some (opsM l2 []) :=
  (Ev.cast (refOps_l0 a0 l1 l2 hl l2.length 0 [] (by omega) (Nat.zero_le _)) (by rw [List.drop_zero])).rounds
theorem outcO_len : ∀ (os : List S42) (a : List ByteArray), (outcO os a).length ≤ a.length + os.length
  | [], a => by simp [outcO]
  | o :: os, a => by
    rw [outcO]
    have h1 := outcO_len os (addS a o.f0)
    have h2 := addS_len a o.f0
    simp only [List.length_cons]; omega
theorem refOutc_l1 (a0 : ByteArray) (l1 : List S62) (l2 : List S39) (op : ByteArray) (hl : l2.length ≤ 1000) (hf : ∀ m ∈ l2, m.f2.length ≤ 1000) (i : Nat) (hi : i < l2.length)
    (ih : ∀ acc : List ByteArray, acc.length ≤ (i + 1) * 1000 → Ev (fun k => ballcockref09_Outcomes.l0 k op acc ((i + 1 : Nat) : Int) a0 l1 l2) (outcM op (l2.drop (i + 1)) acc)) :
    ∀ (d q : Nat) (acc : List ByteArray), q + d = (rd_T39 l2 i).f2.length → acc.length ≤ i * 1000 + q → Ev (fun k => ballcockref09_Outcomes.l1 k op acc (i : Int) (q : Int) a0 l1 l2) (outcM op (l2.drop (i + 1)) (if ((rd_T39 l2 i).f0.toList == op.toList) = true then outcO ((rd_T39 l2 i).f2.drop q) acc else acc)) := by
  have hq := hf _ (rd39_mem hi)
  intro d
  induction d with
  | zero =>
    intro q acc hqd ha
    refine Ev.step (fun k => ballcockref09_Outcomes.l1.eq_2 _ _ _ _ _ _ _ k) (Ev.pos (by omega) (Ev.pos (by omega) (Ev.neg (by omega) ?_)))
    rw [wrap_succ (by omega)]
    refine Ev.cast (ih acc (by omega)) ?_
    rw [List.drop_of_length_le (by omega : (rd_T39 l2 i).f2.length ≤ q)]
    congr 1; split <;> rfl
  | succ d ih2 =>
    intro q acc hqd ha
    refine Ev.step (fun k => ballcockref09_Outcomes.l1.eq_2 _ _ _ _ _ _ _ k) (Ev.pos (by omega) (Ev.pos (by omega) (Ev.pos (by omega) ?_)))
    by_cases h : (rd_T39 l2 i).f0.toList = op.toList
    · refine Ev.pos h (Ev.pos (by omega) ?_)
      refine Ev.bind (add_f acc _ (by omega)) ?_
      rw [wrap_succ (by omega)]
      refine Ev.cast (ih2 (q + 1) _ (by omega) (by have := addS_len acc (rd_T42 (rd_T39 l2 i).f2 (q : Int)).f0; omega)) ?_
      rw [if_pos (ba_eq.2 h), if_pos (ba_eq.2 h), drop42 (show q < (rd_T39 l2 i).f2.length by omega), outcO]
    · refine Ev.neg h ?_
      rw [wrap_succ (by omega)]
      refine Ev.cast (ih acc (by omega)) ?_
      rw [if_neg (fun e => h (ba_eq.1 e))]
theorem refOutc_l0 (a0 : ByteArray) (l1 : List S62) (l2 : List S39) (op : ByteArray) (hl : l2.length ≤ 1000) (hf : ∀ m ∈ l2, m.f2.length ≤ 1000) : ∀ (d i : Nat) (acc : List ByteArray), i + d = l2.length → acc.length ≤ i * 1000 → Ev (fun k => ballcockref09_Outcomes.l0 k op acc (i : Int) a0 l1 l2) (outcM op (l2.drop i) acc) := by
  intro d
  induction d with
  | zero =>
    intro i acc hi ha
    refine Ev.step (fun k => ballcockref09_Outcomes.l0.eq_2 _ _ _ _ _ _ k) (Ev.neg (by omega) (Ev.cast (Ev.now _) ?_))
    rw [List.drop_of_length_le (by omega)]; rfl
  | succ d ih =>
    intro i acc hi ha
    refine Ev.step (fun k => ballcockref09_Outcomes.l0.eq_2 _ _ _ _ _ _ k) (Ev.pos (by omega) ?_)
    refine Ev.cast (refOutc_l1 a0 l1 l2 op hl hf i (by omega) (fun acc ha => ih (i + 1) acc (by omega) ha) _ 0 acc (Nat.zero_add _) (by rw [Nat.add_zero]; exact ha)) ?_
    rw [drop39 (show i < l2.length by omega), outcM, List.drop_zero]
theorem refOutc_f (a0 : ByteArray) (l1 : List S62) (l2 : List S39) (op : ByteArray) (hl : l2.length ≤ 1000) (hf : ∀ m ∈ l2, m.f2.length ≤ 1000) : ∃ k, ballcockref09_Outcomes.f k a0 l1 l2 op = some (outcM op l2 []) :=
  (Ev.cast (refOutc_l0 a0 l1 l2 op hl hf l2.length 0 [] (by omega) (Nat.zero_le _)) (by rw [List.drop_zero])).rounds
theorem outcM_len (op : ByteArray) : ∀ (ms : List S39) (a : List ByteArray), (∀ m ∈ ms, m.f2.length ≤ 1000) → (outcM op ms a).length ≤ a.length + ms.length * 1000
  | [], a, _ => by simp [outcM]
  | m :: ms, a, h => by
    rw [outcM]
    refine Nat.le_trans (outcM_len op ms _ (fun x hx => h x (List.mem_cons_of_mem _ hx))) ?_
    have h1 := h m List.mem_cons_self
    have h2 := outcO_len m.f2 a
    simp only [List.length_cons]
    split <;> omega
theorem opsM_len : ∀ (ms : List S39) (a : List ByteArray), (opsM ms a).length ≤ a.length + ms.length
  | [], a => by simp [opsM]
  | m :: ms, a => by
    rw [opsM]
    have h1 := opsM_len ms (addS a m.f0)
    have h2 := addS_len a m.f0
    simp only [List.length_cons]; omega

/-! Sets, by their bits -/
theorem setV_eq {b : Nat → Bool} {n s x : Nat} (h : SetV b n 0 s) (hx : ∀ k, x.testBit k = (decide (k < n) && b k)) : s = x :=
  Nat.eq_of_testBit_eq fun k => by rw [h k, hx k, Nat.zero_add]
theorem set0_eq {op : ByteArray} {l1 : List S62} {l2 : List S39} {s : Nat} (h : SetV (setB 0 op l1 l2) l1.length 0 s) : s = finS l1 l1.length :=
  setV_eq h (fun k => by rw [finS_bit, setB_0])
theorem Right.outs_pos {l1 : List S62} {l2 : List S39} (h : Right l1 l2) {m : S39} (hm : m ∈ l2) : 0 < m.f2.length := by
  obtain ⟨i, hi, rfl⟩ := List.getElem_of_mem hm
  have h1 := h.fit i hi
  rw [rd39_at hi] at h1
  unfold fitB at h1
  simp only [Bool.and_eq_true, decide_eq_true_eq] at h1
  exact h1.1.2
theorem Right.set1_eq {op : ByteArray} {l1 : List S62} {l2 : List S39} {s : Nat} (h : Right l1 l2) (hs : SetV (setB 1 op l1 l2) l1.length 0 s) : s = ofM (fun _ => true) op l2 0 :=
  setV_eq hs (fun k => by
    rw [setB_1, Bool.eq_iff_iff, ofM_bit, Bool.and_eq_true, decide_eq_true_eq, decide_eq_true_eq]
    constructor
    · rintro (h1 | ⟨m, hm, h1, _, h2⟩)
      · simp at h1
      · have h3 := h.from_lt hm
        have h4 := h.outs_eq hm h1
        rw [show m.f1 = (k : Int) by omega] at h4
        rw [h4]
        exact ⟨by omega, h.outs_pos hm⟩
    · rintro ⟨_, h1⟩
      rcases outsF_find (k : Int) op l2 with ⟨m, hm, h2, h3, h4⟩ | ⟨h2, _⟩
      · exact .inr ⟨m, hm, h3, rfl, by omega⟩
      · rw [h2] at h1; simp at h1)
theorem Right.set2_eq {op : ByteArray} {l1 : List S62} {l2 : List S39} {s : Nat} (h : Right l1 l2) (hs : SetV (setB 2 op l1 l2) l1.length 0 s) : s = ofM stays op l2 0 :=
  setV_eq hs (fun k => by
    rw [setB_2, Bool.eq_iff_iff, ofM_bit, Bool.and_eq_true, Bool.and_eq_true, decide_eq_true_eq, decide_eq_true_eq, List.all_eq_true]
    constructor
    · rintro (h1 | ⟨m, hm, h1, hst, h2⟩)
      · simp at h1
      · have h3 := h.from_lt hm
        have h4 := h.outs_eq hm h1
        rw [show m.f1 = (k : Int) by omega] at h4
        rw [h4]
        refine ⟨by omega, h.outs_pos hm, fun o ho => ?_⟩
        have := (stays_iff m).1 hst o ho
        rw [this]; exact beq_iff_eq.2 (by omega)
    · rintro ⟨_, h1, h5⟩
      rcases outsF_find (k : Int) op l2 with ⟨m, hm, h2, h3, h4⟩ | ⟨h2, _⟩
      · refine .inr ⟨m, hm, h3, (stays_iff m).2 (fun o ho => ?_), by omega⟩
        rw [h4] at h5
        have := eq_of_beq (h5 o ho)
        rw [this, h2]
      · rw [h2] at h1; simp at h1)
theorem outsF_len (st : Int) (op : ByteArray) (ms : List S39) (h : ∀ m ∈ ms, m.f2.length ≤ 1000) : (outsF st op ms).length ≤ 1000 := by
  rcases outsF_find st op ms with ⟨m, hm, _, _, h4⟩ | ⟨h2, _⟩
  · rw [h4]; exact h m hm
  · rw [h2]; simp

/-! Names -/
theorem Right.named {l1 : List S62} {l2 : List S39} (h : Right l1 l2) {i : Nat} (hi : i < l1.length) : (i : Int) = idxP (fun s => s.f0.toList == (rd_T62 l1 i).f0.toList) l1 := by
  refine (idxP_hit _ l1 i l1[i] (List.getElem?_eq_getElem hi) ?_ (fun j y hj hy => ?_)).symm
  · rw [rd62_at hi]; simp
  · have hj2 : j < l1.length := by omega
    rw [List.getElem?_eq_getElem hj2] at hy
    cases hy
    have := h.names i hi j hj
    rwa [rd62_at hj2] at this
theorem toList_len (s : ByteArray) : s.toList.length = s.size := by
  rw [Go.ByteArray.toList_eq]
  exact data_length s
theorem unnamed {l1 : List S62} {nm : ByteArray} (h : ∀ i, i < l1.length → (rd_T62 l1 i).f0.size < nm.size) : -1 = idxP (fun s => s.f0.toList == nm.toList) l1 := by
  refine (idxP_miss _ l1 (fun y hy => ?_)).symm
  obtain ⟨i, hi, rfl⟩ := List.getElem_of_mem hy
  have h1 := h i hi
  rw [rd62_at hi] at h1
  rw [beq_eq_false_iff_ne]
  intro e
  have := congrArg List.length e
  rw [toList_len, toList_len] at this
  omega
end Go.Proofs.Ytkgcfgoaabkcpaa.Pa
