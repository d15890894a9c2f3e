import Derived.Test.YtkgcfgoaabkcpaaE8
namespace Go.Proofs.Ytkgcfgoaabkcpaa.Pa
open Go.RowKit Go.Proofs.YtkgcfgoaabkcpaaW.PrintWords Go.Proofs.YtkgcfgoaabkcpaaW.PrintLast Go.Proofs.YtkgcfgoaabkcpaaW.PrintMore
set_option linter.unusedVariables false
set_option linter.unusedSimpArgs false

def GoodS (l1 : List S62) (l2 : List S39) (S : Nat) : Prop := ∀ j, S.testBit j = true → j < l1.length ∧ ∃ q, reachN l1 l2 q j = true
theorem GoodS.lt {l1 : List S62} {l2 : List S39} {S : Nat} (h : GoodS l1 l2 S) (hn : l1.length ≤ 16) : S < 2 ^ 32 :=
  Nat.lt_pow_two_of_testBit S (fun i hi => by
    cases hb : S.testBit i with
    | true => have := (h i hb).1; omega
    | false => rfl)
structure NextS (l1 : List S62) (l2 : List S39) (S : Nat) (g : Bool) (S' : Nat) (g' : Bool) : Prop where
  up : ∀ j, S.testBit j = true → S'.testBit j = true
  flag : g = true → g' = true
  good : GoodS l1 l2 S'
  same : g' = false → S' = S
  new : g = false → g' = true → ∃ j, S'.testBit j = true ∧ S.testBit j = false
theorem NextS.refl {l1 : List S62} {l2 : List S39} {S : Nat} {g : Bool} (h : GoodS l1 l2 S) : NextS l1 l2 S g S g :=
  ⟨fun _ h => h, fun h => h, h, fun _ => rfl, fun h h' => by rw [h] at h'; cases h'⟩
theorem NextS.trans {l1 : List S62} {l2 : List S39} {S S' S'' : Nat} {g g' g'' : Bool} (h : NextS l1 l2 S g S' g') (k : NextS l1 l2 S' g' S'' g'') : NextS l1 l2 S g S'' g'' := by
  refine ⟨fun j hj => k.up j (h.up j hj), fun hg => k.flag (h.flag hg), k.good, fun hg => ?_, fun h0 h1 => ?_⟩
  · have hg' : g' = false := by
      cases hh : g' with
      | true => have := k.flag hh; rw [hg] at this; cases this
      | false => rfl
    exact (k.same hg).trans (h.same hg')
  · cases hh : g' with
    | true =>
      obtain ⟨j, h2, h3⟩ := h.new h0 hh
      exact ⟨j, k.up j h2, h3⟩
    | false =>
      obtain ⟨j, h2, h3⟩ := k.new hh h1
      rw [h.same hh] at h3
      exact ⟨j, h2, h3⟩
theorem NextS.false_ {l1 : List S62} {l2 : List S39} {S S' : Nat} {g g' : Bool} (h : NextS l1 l2 S g S' g') (hg : g' = false) : g = false := by
  cases hh : g with
  | true => have := h.flag hh; rw [hg] at this; cases this
  | false => rfl

theorem ends_l2 (a0 : ByteArray) (l1 : List S62) (l2 : List S39) (hn : l1.length ≤ 16) (hl2 : l2.length ≤ 1000) (hfit : AllFit l1 l2) (m : Nat) (hm : m < l2.length) (hv2 : (rd_T39 l2 m).f2.length ≤ 1000) :
    ∀ (d i S : Nat) (g : Bool), i + d = (rd_T39 l2 m).f2.length → GoodS l1 l2 S →
    ∃ S' g', NextS l1 l2 S g S' g' ∧ (g' = false → ∀ o ∈ (rd_T39 l2 m).f2.drop i, S'.testBit o.f1.toNat = true → S'.testBit (rd_T39 l2 m).f1.toNat = true) ∧
      ∀ r, Ev (fun k => auto_ends.l1 k (S' : Int) g' l2 (l2.length : Int) ((m + 1 : Nat) : Int) a0 l1 l2) r → Ev (fun k => auto_ends.l2 k (S : Int) g l2 (l2.length : Int) (m : Int) (rd_T39 l2 m).f2 ((rd_T39 l2 m).f2.length : Int) (i : Int) a0 l1 l2 (rd_T39 l2 m).f0 (rd_T39 l2 m).f1 (rd_T39 l2 m).f2) r := by
  intro d
  induction d with
  | zero =>
    intro i S g hi hS
    refine ⟨S, g, NextS.refl hS, fun _ o ho => ?_, fun r hr => ?_⟩
    · rw [List.drop_of_length_le (by omega)] at ho; cases ho
    · refine Ev.step (fun k => auto_ends.l2.eq_2 _ _ _ _ _ _ _ _ _ _ _ _ _ _ k) (Ev.neg (by omega) ?_)
      rw [wrap_succ (by omega)]; exact hr
  | succ d ih =>
    intro i S g hi hS
    have hil : i < (rd_T39 l2 m).f2.length := by omega
    have hfr := hfit.from_ hm
    have hmem : rd_T42 (rd_T39 l2 m).f2 i ∈ (rd_T39 l2 m).f2 := rd42_mem hil
    have hto := hfit.inAll _ (rd39_mem hm) _ hmem
    have hSlt := hS.lt hn
    obtain ⟨x, hx⟩ := Int.eq_ofNat_of_zero_le hto.1
    obtain ⟨y, hy⟩ := Int.eq_ofNat_of_zero_le hfr.1
    have hx32 : x < 32 := by omega
    have hy32 : y < 32 := by omega
    have hstep : ∀ r (S1 : Nat) (g1 : Bool), (S.testBit x = true → S.testBit y = false → S1 = S ||| 2 ^ y ∧ g1 = true) → (S.testBit x = false ∨ S.testBit y = true → S1 = S ∧ g1 = g) →
        Ev (fun k => auto_ends.l2 k (S1 : Int) g1 l2 (l2.length : Int) (m : Int) (rd_T39 l2 m).f2 ((rd_T39 l2 m).f2.length : Int) ((i + 1 : Nat) : Int) a0 l1 l2 (rd_T39 l2 m).f0 (rd_T39 l2 m).f1 (rd_T39 l2 m).f2) r →
        Ev (fun k => auto_ends.l2 k (S : Int) g l2 (l2.length : Int) (m : Int) (rd_T39 l2 m).f2 ((rd_T39 l2 m).f2.length : Int) (i : Int) a0 l1 l2 (rd_T39 l2 m).f0 (rd_T39 l2 m).f1 (rd_T39 l2 m).f2) r := by
      intro r S1 g1 h1 h2 he
      refine Ev.step (fun k => auto_ends.l2.eq_2 _ _ _ _ _ _ _ _ _ _ _ _ _ _ k) (Ev.pos (by omega) (Ev.pos (by omega) (Ev.pos (by omega) (Ev.pos (by rw [hx]; omega) ?_))))
      rw [hx, hy] at *
      rw [wrap_succ (by omega)]
      cases hbx : S.testBit x with
      | false =>
        refine Ev.neg (fun h => by rw [bit_pos S x hSlt hx32, hbx] at h; cases h) ?_
        obtain ⟨rfl, rfl⟩ := h2 (.inl hbx)
        exact he
      | true =>
        refine Ev.pos ((bit_pos S x hSlt hx32).2 hbx) (Ev.pos (by omega) ?_)
        cases hby : S.testBit y with
        | false =>
          refine Ev.pos ((bit_zero S y hSlt hy32).2 hby) ?_
          obtain ⟨rfl, rfl⟩ := h1 hbx hby
          rw [orbit S y hSlt hy32]
          exact he
        | true =>
          refine Ev.neg (fun h => by rw [bit_zero S y hSlt hy32, hby] at h; cases h) ?_
          obtain ⟨rfl, rfl⟩ := h2 (.inr hby)
          exact he
    have hdrop := drop42 hil
    by_cases hc : S.testBit x = true ∧ S.testBit y = false
    · have hy' : y < l1.length := by omega
      obtain ⟨q, hq⟩ := (hS x hc.1).2
      have hreach : reachN l1 l2 (q + 1) y = true := by
        simp only [reachN, Bool.or_eq_true, List.any_eq_true]
        right
        refine ⟨rd_T39 l2 m, rd39_mem hm, ?_⟩
        rw [Bool.and_eq_true, List.any_eq_true]
        exact ⟨by rw [hy]; simp, _, hmem, by rw [hx]; simpa using hq⟩
      have hS1 : GoodS l1 l2 (S ||| 2 ^ y) := fun j hj => by
        rw [test_or, Bool.or_eq_true] at hj
        rcases hj with hj | hj
        · exact hS j hj
        · obtain rfl := of_decide_eq_true hj
          exact ⟨hy', _, hreach⟩
      have hn1 : NextS l1 l2 S g (S ||| 2 ^ y) true := ⟨fun j hj => by rw [test_or, hj, Bool.true_or], fun _ => rfl, hS1, fun h => (by cases h), fun _ _ => ⟨y, by rw [test_or]; simp, hc.2⟩⟩
      obtain ⟨S', g', h1, h2, h3⟩ := ih (i + 1) (S ||| 2 ^ y) true (by omega) hS1
      refine ⟨S', g', hn1.trans h1, fun hg => ?_, fun r hr => hstep r _ _ (fun _ _ => ⟨rfl, rfl⟩) (fun h => ?_) (h3 r hr)⟩
      · have := h1.flag rfl; rw [hg] at this; cases this
      · rcases h with h | h
        · rw [hc.1] at h; cases h
        · rw [hc.2] at h; cases h
    · obtain ⟨S', g', h1, h2, h3⟩ := ih (i + 1) S g (by omega) hS
      refine ⟨S', g', h1, fun hg o ho hb => ?_, fun r hr => hstep r S g (fun h h' => absurd ⟨h, h'⟩ hc) (fun _ => ⟨rfl, rfl⟩) (h3 r hr)⟩
      rw [hdrop] at ho
      rcases List.mem_cons.1 ho with rfl | ho
      · rw [h1.same hg] at hb ⊢
        rw [hx] at hb; rw [hy]
        simp only [Int.ofNat_eq_natCast, Int.toNat_natCast] at hb ⊢
        cases hby : S.testBit y with
        | true => rfl
        | false => exact absurd ⟨hb, hby⟩ hc
      · exact h2 hg o ho hb

theorem ends_l1 (a0 : ByteArray) (l1 : List S62) (l2 : List S39) (hn : l1.length ≤ 16) (hf : Fits l1 l2) (hfit : AllFit l1 l2) :
    ∀ (d m S : Nat) (g : Bool), m + d = l2.length → GoodS l1 l2 S →
    ∃ S' g', NextS l1 l2 S g S' g' ∧ (g' = false → ∀ v ∈ l2.drop m, ∀ o ∈ v.f2, S'.testBit o.f1.toNat = true → S'.testBit v.f1.toNat = true) ∧
      ∀ r, Ev (fun k => auto_ends.l0 k (S' : Int) g' a0 l1 l2) r → Ev (fun k => auto_ends.l1 k (S : Int) g l2 (l2.length : Int) (m : Int) a0 l1 l2) r := by
  intro d
  induction d with
  | zero =>
    intro m S g hm hS
    refine ⟨S, g, NextS.refl hS, fun _ v hv => ?_, fun r hr => ?_⟩
    · rw [List.drop_of_length_le (by omega)] at hv; cases hv
    · exact Ev.step (fun k => auto_ends.l1.eq_2 _ _ _ _ _ _ _ _ k) (Ev.neg (by omega) hr)
  | succ d ih =>
    intro m S g hm hS
    have hml : m < l2.length := by omega
    have hv2 : (rd_T39 l2 m).f2.length ≤ 1000 := hf.2.2 _ (rd39_mem hml)
    obtain ⟨S1, g1, h1, h2, h3⟩ := ends_l2 a0 l1 l2 hn hf.2.1 hfit m hml hv2 (rd_T39 l2 m).f2.length 0 S g (by omega) hS
    obtain ⟨S2, g2, k1, k2, k3⟩ := ih (m + 1) S1 g1 (by omega) h1.good
    refine ⟨S2, g2, h1.trans k1, fun hg v hv => ?_, fun r hr => ?_⟩
    · rw [drop39 hml] at hv
      have hg1 := k1.false_ hg
      rcases List.mem_cons.1 hv with rfl | hv
      · have := h2 hg1
        rw [List.drop_zero] at this
        rw [k1.same hg]; exact this
      · exact k2 hg v hv
    · refine Ev.step (fun k => auto_ends.l1.eq_2 _ _ _ _ _ _ _ _ k) (Ev.pos (by omega) (Ev.pos (by omega) (Ev.pos (by omega) ?_)))
      exact h3 r (k3 r hr)
def cntS (n S : Nat) : Nat := ((List.range n).filter fun j => !S.testBit j).length
theorem ends_l0 (a0 : ByteArray) (l1 : List S62) (l2 : List S39) (hn : l1.length ≤ 16) (hf : Fits l1 l2) (hfit : AllFit l1 l2) :
    ∀ (c S : Nat), cntS l1.length S ≤ c → GoodS l1 l2 S →
    ∃ E : Nat, GoodS l1 l2 E ∧ (∀ j, S.testBit j = true → E.testBit j = true) ∧ (∀ v ∈ l2, ∀ o ∈ v.f2, E.testBit o.f1.toNat = true → E.testBit v.f1.toNat = true) ∧ Ev (fun k => auto_ends.l0 k (S : Int) true a0 l1 l2) (E : Int) := by
  intro c
  induction c with
  | zero =>
    intro S hc hS
    obtain ⟨S', g', h1, h2, h3⟩ := ends_l1 a0 l1 l2 hn hf hfit l2.length 0 S false (by omega) hS
    cases hg : g' with
    | true =>
      obtain ⟨j, hj1, hj2⟩ := h1.new rfl hg
      have : cntS l1.length S' < cntS l1.length S := filter_lt _ _ _ (fun x _ hx => by
        simp only [Bool.not_eq_true'] at hx ⊢
        cases hb : S.testBit x with
        | true => rw [h1.up x hb] at hx; cases hx
        | false => rfl) ⟨j, by simpa using (h1.good j hj1).1, by simp [hj2], by simp [hj1]⟩
      omega
    | false =>
      have hs := h1.same hg
      subst hs
      refine ⟨S', hS, fun _ h => h, fun v hv => h2 hg v (by rw [List.drop_zero]; exact hv), ?_⟩
      refine Ev.step (fun k => auto_ends.l0.eq_2 _ _ _ _ _ k) (Ev.pos rfl ?_)
      refine h3 _ ?_
      rw [hg]
      exact Ev.step (fun k => auto_ends.l0.eq_2 _ _ _ _ _ k) (Ev.neg (by simp) (Ev.now _))
  | succ c ih =>
    intro S hc hS
    obtain ⟨S', g', h1, h2, h3⟩ := ends_l1 a0 l1 l2 hn hf hfit l2.length 0 S false (by omega) hS
    cases hg : g' with
    | true =>
      obtain ⟨j, hj1, hj2⟩ := h1.new rfl hg
      have hlt : cntS l1.length S' < cntS l1.length S := filter_lt _ _ _ (fun x _ hx => by
        simp only [Bool.not_eq_true'] at hx ⊢
        cases hb : S.testBit x with
        | true => rw [h1.up x hb] at hx; cases hx
        | false => rfl) ⟨j, by simpa using (h1.good j hj1).1, by simp [hj2], by simp [hj1]⟩
      obtain ⟨E, e1, e2, e3, e4⟩ := ih S' (by omega) h1.good
      refine ⟨E, e1, fun j hj => e2 j (h1.up j hj), e3, ?_⟩
      refine Ev.step (fun k => auto_ends.l0.eq_2 _ _ _ _ _ k) (Ev.pos rfl ?_)
      refine h3 _ ?_
      rw [hg]; exact e4
    | false =>
      have hs := h1.same hg
      subst hs
      refine ⟨S', hS, fun _ h => h, fun v hv => h2 hg v (by rw [List.drop_zero]; exact hv), ?_⟩
      refine Ev.step (fun k => auto_ends.l0.eq_2 _ _ _ _ _ k) (Ev.pos rfl ?_)
      refine h3 _ ?_
      rw [hg]
      exact Ev.step (fun k => auto_ends.l0.eq_2 _ _ _ _ _ k) (Ev.neg (by simp) (Ev.now _))

/-! ### Finals -/
def finS (l1 : List S62) : Nat → Nat
  | 0 => 0
  | i + 1 => if (rd_T62 l1 i).f1 = true then finS l1 i ||| 2 ^ i else finS l1 i
theorem finS_bit (l1 : List S62) : ∀ (n j : Nat), (finS l1 n).testBit j = (decide (j < n) && (rd_T62 l1 j).f1)
  | 0, j => by simp [finS]
  | n + 1, j => by
    rw [finS]
    by_cases h : (rd_T62 l1 n).f1 = true
    · rw [if_pos h, test_or, finS_bit l1 n j]
      by_cases e : n = j
      · subst e; simp [h]
      · have : decide (n = j) = false := by simpa using e
        rw [this, Bool.or_false]
        congr 1
        exact decide_eq_decide.mpr (by omega)
    · rw [if_neg h, finS_bit l1 n j]
      by_cases e : j = n
      · subst e
        simp only [Bool.not_eq_true] at h
        simp [h]
      · congr 1
        exact decide_eq_decide.mpr (by omega)
theorem finS_lt (l1 : List S62) (n : Nat) (hn : n ≤ 32) : finS l1 n < 2 ^ 32 := Nat.lt_pow_two_of_testBit _ (fun i hi => by rw [finS_bit]; simp; omega)
theorem finals_l0 (l1 : List S62) (hn : l1.length ≤ 16) : ∀ (d i : Nat), i + d = l1.length → Ev (fun k => auto_finals.l0 k (finS l1 i : Int) l1 (l1.length : Int) (i : Int)) (finS l1 l1.length : Int) := by
  intro d
  induction d with
  | zero =>
    intro i hi
    obtain rfl : i = l1.length := by omega
    exact Ev.step (fun k => auto_finals.l0.eq_2 _ _ _ _ k) (Ev.neg (by omega) (Ev.now _))
  | succ d ih =>
    intro i hi
    refine Ev.step (fun k => auto_finals.l0.eq_2 _ _ _ _ k) (Ev.pos (by omega) (Ev.pos (by omega) (Ev.pos (by omega) ?_)))
    have := ih (i + 1) (by omega)
    rw [wrap_succ (by omega)]
    by_cases h : (rd_T62 l1 i).f1 = true
    · refine Ev.pos h ?_
      rw [orbit _ i (finS_lt l1 i (by omega)) (by omega)]
      rw [finS, if_pos h] at this
      exact this
    · refine Ev.neg h ?_
      rw [finS, if_neg h] at this
      exact this
/-- What ends tells: bit by bit whether a final state can be reached. -/
theorem ends_f (a0 : ByteArray) (l1 : List S62) (l2 : List S39) (hn : l1.length ≤ 16) (hf : Fits l1 l2) (hfit : AllFit l1 l2) :
    ∃ E : Nat, E < 2 ^ 32 ∧ (∀ j, j < l1.length → (E.testBit j = true ↔ endsB l1 l2 j = true)) ∧ Ev (fun k => auto_ends.f k a0 l1 l2) (E : Int) := by
  have hin := hfit.inAll
  have hg0 : GoodS l1 l2 (finS l1 l1.length) := fun j hj => by
    rw [finS_bit, Bool.and_eq_true] at hj
    exact ⟨of_decide_eq_true hj.1, 0, hj.2⟩
  obtain ⟨E, e1, e2, e3, e4⟩ := ends_l0 a0 l1 l2 hn hf hfit _ (finS l1 l1.length) (Nat.le_refl _) hg0
  refine ⟨E, e1.lt hn, fun j hj => ?_, ?_⟩
  · rw [endsB_iff l1 l2 hin j hj]
    constructor
    · intro h; exact (e1 j h).2
    · rintro ⟨q, hq⟩
      induction q generalizing j with
      | zero =>
        exact e2 j (by rw [finS_bit, Bool.and_eq_true]; exact ⟨decide_eq_true hj, hq⟩)
      | succ q ih =>
        simp only [reachN, Bool.or_eq_true, List.any_eq_true] at hq
        rcases hq with hq | ⟨m, hm, hq⟩
        · exact ih j hj hq
        · rw [Bool.and_eq_true, List.any_eq_true] at hq
          obtain ⟨he, o, ho, hr⟩ := hq
          have hio := hin m hm o ho
          have := e3 m hm o ho (ih _ (by omega) hr)
          have he' : m.f1 = (j : Int) := by simpa using he
          rw [he'] at this
          simpa using this
  · exact Ev.bind (f := fun k t => auto_ends.l0 k t true a0 l1 l2) (finals_l0 l1 hn l1.length 0 (by omega)) e4
end Go.Proofs.Ytkgcfgoaabkcpaa.Pa
