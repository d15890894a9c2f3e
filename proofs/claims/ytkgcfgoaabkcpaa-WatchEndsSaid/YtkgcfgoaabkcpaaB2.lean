import Derived.Test.YtkgcfgoaabkcpaaB1
import Derived.Lib.SliceRun
import Derived.Deep.RegionWith
import Derived.Deep.DeepCutAuto

/-! ## part Pa9 -/
-- PRINTED by print.py (a twelfth state) out of the translation. Not trusted: Lean checks it.
namespace Go.Proofs.Ytkgcfgoaabkcpaa.Pa
open Go.RowKit Go.Proofs.YtkgcfgoaabkcpaaW.PrintWords Go.Proofs.YtkgcfgoaabkcpaaW.PrintLast Go.Proofs.YtkgcfgoaabkcpaaW.PrintMore
attribute [local go_sem] max2_int min2_int max_two min_two max_three min_three max_four min_four   -- for this text's walks alone
set_option linter.unusedVariables false
set_option linter.unusedSimpArgs false

/-! ### ballcockref09_has: function 93 -/
def ballcockref09_has.l0 : Nat → List Int → Int → Int → Option (Bool)
  | 0, _, _, _ => none
  | k + 1, x0, x1, x5 => if x5 < (x0.length : Int) then (if 0 ≤ x5 then (if (rd x0 x5) = x1 then (some true) else (ballcockref09_has.l0 k x0 x1 (wrap64 (x5 + 1)))) else (none)) else (some false)
def ballcockref09_has.f (k : Nat) (l0 : List Int) (a1 : Int) : Option (Bool) := ballcockref09_has.l0 k l0 a1 0
theorem ballcockref09_has.mono_l : ∀ k, (∀ y0 y1 y2, LeO (ballcockref09_has.l0 k y0 y1 y2) (ballcockref09_has.l0 (k + 1) y0 y1 y2))
  | 0 => fun _ _ _ r h => by simp [ballcockref09_has.l0] at h
  | k + 1 => by
    have ih0 := ballcockref09_has.mono_l k
    · intro y0 y1 y2
      unfold ballcockref09_has.l0
      repeat' first
      | (with_reducible exact ih0 _ _ _)
      | (with_reducible exact LeO.refl _)
      | (with_reducible exact LeO.none _)
      | (with_reducible refine LeO.ite ?_ ?_)
      | (with_reducible refine LeO.bind ?_ (fun _ => ?_))
      | exact ih0 _ _ _
      | exact LeO.none _
      | refine LeO.ite ?_ ?_
      | refine LeO.bind ?_ (fun _ => ?_)
theorem ballcockref09_has.mono : ∀ a0 a1 k, LeO (ballcockref09_has.f k a0 a1) (ballcockref09_has.f (k + 1) a0 a1) := by
  intro a0 a1 k
  have ih0 := ballcockref09_has.mono_l k
  unfold ballcockref09_has.f
  repeat' first
      | (with_reducible exact ih0 _ _ _)
      | (with_reducible exact LeO.refl _)
      | (with_reducible exact LeO.none _)
      | (with_reducible refine LeO.ite ?_ ?_)
      | (with_reducible refine LeO.bind ?_ (fun _ => ?_))
      | exact ih0 _ _ _
      | exact LeO.none _
      | refine LeO.ite ?_ ?_
      | refine LeO.bind ?_ (fun _ => ?_)
set_option maxHeartbeats 8000000 in
set_option maxRecDepth 100000 in
theorem ballcockref09_has.calls (k : Nat) (A0 : Option Addr) (c0 : Nat) (l0 : List Int) (a1 : Int) (r : Bool) (w : World) (hr0 : Kd.C (Kd.int .i64) w A0 l0.length l0) (hc0 : l0.length ≤ c0) (h : ballcockref09_has.f k l0 a1 = some r) :
    Calls Try.prog 93 #[.slice A0 l0.length c0, .int .i64 a1] w fun e w' => e = .returned (.bool r) ∧ Drawn0 w w' := by
  have HR0 := Aside0.mk hr0
  have HC0 := Aside0.mk hc0
  clear hr0 hc0
  have H : (ballcockref09_has.l0 k l0 a1 0) = some r := h
  clear h
  have H' := Aside0.mk H
  clear H
  go_enter Try.func93, Try.ntmps93
  go_wp2
  go_loopg [5] k (fun kq v5 w' => ∃ (x5_1 : Int), v5 = .int .i64 x5_1 ∧ Aside0 (ballcockref09_has.l0 kq l0 a1 x5_1 = some r) ∧ Aside0 (kq ≤ k) ∧ Drawn0 w w')
  case atStart => exact ⟨(0), (by first | rfl | (simp; done) | (simp [*]; done)), H', ⟨Nat.le_refl _⟩, by repeat (first | exact Drawn0.refl _ | apply Drawn0.step)⟩
  case round =>
    clear H'
    try clear p2
    obtain ⟨x5_1, rfl, HA, HK1, ⟨m1, rfl⟩⟩ := hrel
    cases gk with
    | zero => exact absurd HA.out (by simp [ballcockref09_has.l0])
    | succ k1 =>
      have H := HA.out
      clear HA
      simp only [ballcockref09_has.l0] at H
      by_cases c3 : x5_1 < (l0.length : Int)
      · rw [if_pos c3] at H
        have c3b0 : decide (x5_1 < (l0.length : Int)) = true := decide_eq_true c3
        clear c3
        by_cases c4 : 0 ≤ x5_1
        · rw [if_pos c4] at H
          have c4b0 : decide (0 ≤ x5_1) = true := decide_eq_true c4
          clear c4
          by_cases c5 : (rd l0 x5_1) = a1
          · rw [if_pos c5] at H
            have c5b0 : ((rd l0 x5_1) == a1) = true := beq_iff_eq.mpr c5
            have c5b1 : ((rd l0 x5_1) != a1) = false := bne_eq_false_iff_eq.mpr c5
            clear c5
            obtain rfl := Option.some.inj H
            have p146 : 0 ≤ (x5_1 : Int) := of_decide_eq_true (by first | (with_reducible assumption) | assumption)
            have q146 : x5_1 < (l0.length : Int) := of_decide_eq_true (by first | (with_reducible assumption) | assumption)
            obtain ⟨ad146, e146, hx146_0⟩ := Kd.at_int HR0.out x5_1 p146 q146
            cases e146
            replace p146 := eq_true p146
            replace q146 := eq_true q146
            go_wp2
            go_ret
            exact ⟨by first | rfl | (simp; done) | (simp [*]; done), by repeat (first | exact Drawn0.refl _ | apply Drawn0.step)⟩
          · rw [if_neg c5] at H
            have c5b0 : ((rd l0 x5_1) == a1) = false := beq_eq_false_iff_ne.mpr c5
            have c5b1 : ((rd l0 x5_1) != a1) = true := bne_iff_ne.mpr c5
            have H' := Aside0.mk H
            clear H
            have p146 : 0 ≤ (x5_1 : Int) := of_decide_eq_true (by first | (with_reducible assumption) | assumption)
            have q146 : x5_1 < (l0.length : Int) := of_decide_eq_true (by first | (with_reducible assumption) | assumption)
            obtain ⟨ad146, e146, hx146_0⟩ := Kd.at_int HR0.out x5_1 p146 q146
            cases e146
            replace p146 := eq_true p146
            replace q146 := eq_true q146
            go_wp2
            go_roundg k1
            case measure => have := HK1.out; omega
            case rel => exact ⟨(wrap64 (x5_1 + 1)), (by first | rfl | (simp; done) | (simp [*]; done)), H', ⟨by have := HK1.out; omega⟩, by repeat (first | exact Drawn0.refl _ | apply Drawn0.step)⟩
        · rw [if_neg c4] at H
          exact absurd H (by simp)
      · rw [if_neg c3] at H
        have c3b0 : decide (x5_1 < (l0.length : Int)) = false := decide_eq_false c3
        clear c3
        obtain rfl := Option.some.inj H
        go_wp2
        go_ret
        exact ⟨by first | rfl | (simp; done) | (simp [*]; done), by repeat (first | exact Drawn0.refl _ | apply Drawn0.step)⟩

end Go.Proofs.Ytkgcfgoaabkcpaa.Pa


/-! ## part E2 -/
namespace Go.Proofs.Ytkgcfgoaabkcpaa.Pa
open Go.RowKit Go.Proofs.YtkgcfgoaabkcpaaW.PrintWords Go.Proofs.YtkgcfgoaabkcpaaW.PrintLast Go.Proofs.YtkgcfgoaabkcpaaW.PrintMore
set_option linter.unusedVariables false
set_option linter.unusedSimpArgs false

/-! ### The answer -/
def endsO (l1 : List S62) : List S42 → List Int → Option (List Int)
  | [], nx => some nx
  | o :: os, nx => if (rd_T62 l1 o.f1).f1 = true then none else endsO l1 os (if nx.contains o.f1 then nx else nx ++ [o.f1])
def endsM (l1 : List S62) (s : Int) : List S39 → List Int → Option (List Int)
  | [], nx => some nx
  | m :: ms, nx => if m.f1 = s then (endsO l1 m.f2 nx).bind (endsM l1 s ms) else endsM l1 s ms nx
def endsI (l1 : List S62) (l2 : List S39) : List Int → List Int → Option (List Int)
  | [], nx => some nx
  | s :: ss, nx => (endsM l1 s l2 nx).bind (endsI l1 l2 ss)
def endsK (l1 : List S62) (l2 : List S39) : Nat → List Int → Bool
  | 0, _ => false
  | k + 1, set => match endsI l1 l2 set set with
    | none => true
    | some nx => endsK l1 l2 k nx

/-! ### has -/
theorem has_f (l : List Int) (a : Int) (hl : l.length ≤ 4611686018427387904) : ∀ (d k : Nat) (i : Nat), i + d = l.length → d < k → ballcockref09_has.l0 k l a i = some ((l.drop i).contains a) := by
  intro d
  induction d with
  | zero =>
    intro k i hi hk
    obtain ⟨k, rfl⟩ : ∃ m, k = m + 1 := ⟨k - 1, by omega⟩
    simp only [ballcockref09_has.l0]
    rw [if_neg (by omega), List.drop_of_length_le (by omega)]; rfl
  | succ d ih =>
    intro k i hi hk
    obtain ⟨k, rfl⟩ : ∃ m, k = m + 1 := ⟨k - 1, by omega⟩
    simp only [ballcockref09_has.l0]
    have hlt : i < l.length := by omega
    rw [if_pos (by omega), if_pos (by omega), List.drop_eq_getElem_cons hlt, List.contains_cons]
    have hrd : rd l (i : Int) = l[i] := by unfold rd; simp [List.getD_eq_getElem?_getD, hlt]
    rw [hrd]
    by_cases h : l[i] = a
    · rw [if_pos h]; simp [h]
    · rw [if_neg h]
      have hw : wrap64 ((i : Int) + 1) = ((i + 1 : Nat) : Int) := by unfold wrap64; omega
      rw [hw, ih k (i + 1) (by omega) (by omega)]
      have : (a == l[i]) = false := by simpa using fun e => h e.symm
      rw [this, Bool.false_or]
theorem has_run (A0 : Option Addr) (c0 : Nat) (l0 : List Int) (a1 : Int) (w : World) (hr0 : Kd.C (Kd.int .i64) w A0 l0.length l0) (hc0 : l0.length ≤ c0) (hl : l0.length ≤ 4611686018427387904) :
    Calls Try.prog 93 #[.slice A0 l0.length c0, .int .i64 a1] w fun e w' => e = .returned (.bool (l0.contains a1)) ∧ Drawn0 w w' := by
  have h := has_f l0 a1 hl l0.length (l0.length + 1) 0 (by omega) (by omega)
  exact ballcockref09_has.calls (l0.length + 1) A0 c0 l0 a1 (l0.contains a1) w hr0 hc0 h

theorem getD_mem {α : Type} {l : List α} {i : Nat} {d : α} (h : i < l.length) : l.getD i d ∈ l := by simp [List.getD_eq_getElem?_getD, h]
theorem getD_drop {α : Type} {l : List α} {i : Nat} {d : α} (h : i < l.length) : l.drop i = l.getD i d :: l.drop (i + 1) := by
  rw [List.drop_eq_getElem_cons h]; simp [List.getD_eq_getElem?_getD, h]
theorem rd39_mem {l : List S39} {i : Nat} (h : i < l.length) : rd_T39 l i ∈ l := getD_mem h
theorem rd42_mem {l : List S42} {i : Nat} (h : i < l.length) : rd_T42 l i ∈ l := getD_mem h
theorem drop39 {l : List S39} {i : Nat} (h : i < l.length) : l.drop i = rd_T39 l i :: l.drop (i + 1) := getD_drop h
theorem drop42 {l : List S42} {i : Nat} (h : i < l.length) : l.drop i = rd_T42 l i :: l.drop (i + 1) := getD_drop h
theorem dropI {l : List Int} {i : Nat} (h : i < l.length) : l.drop i = rd l i :: l.drop (i + 1) := getD_drop h
/-- A slice of ints that reads as a list. -/
def RdI (w : World) (v : Value) (xs : List Int) : Prop := ∃ A c, v = .slice A xs.length c ∧ xs.length ≤ c ∧ Kd.C (Kd.int .i64) w A xs.length xs
theorem RdI.below {w w' : World} {v : Value} {xs : List Int} (h : RdI w v xs) (hb : Below w.heap.size w w') : RdI w' v xs := by
  obtain ⟨A, c, e, hc, h⟩ := h
  exact ⟨A, c, e, hc, Kd.C_below h hb⟩
theorem int_empty (W : World) (base : Nat) (hb : base ≤ W.heap.size) : (Kd.int .i64).R 3 (W.alloc (.cells #[] 3)) base (fun _ => True) (.slice (some ⟨W.heap.size, 0, none⟩) 0 0) [] :=
  ⟨fun _ _ => trivial, OwnRow.lit (inner := []) (ps := []) W base (Reps.none _ _) hb (by simp)⟩
theorem R_RdI {W : World} {base : Nat} {ok : Nat → Prop} {v : Value} {xs : List Int} (h : (Kd.int .i64).R 3 W base ok v xs) : RdI W v xs := by
  obtain ⟨A, c, e, hc, h⟩ := Kd.R_reads h
  exact ⟨A, c, e, hc, h⟩
def contK (l1 : List S62) (l2 : List S39) (k : Nat) : Option (List Int) → Bool
  | none => true
  | some nx => endsK l1 l2 k nx
/-- All that outcomes lead to are states. -/
def InAll (l1 : List S62) (l2 : List S39) : Prop := ∀ m ∈ l2, ∀ o ∈ m.f2, 0 ≤ o.f1 ∧ o.f1 < l1.length
/-- A list of states, each once. -/
def Once (n : Nat) (xs : List Int) : Prop := xs.Nodup ∧ ∀ x ∈ xs, 0 ≤ x ∧ x < n

theorem nodup_len : ∀ (n : Nat) (xs : List Int), xs.Nodup → (∀ x ∈ xs, 0 ≤ x ∧ x < n) → xs.length ≤ n := by
  intro n
  induction n with
  | zero =>
    intro xs _ h
    cases xs with
    | nil => simp
    | cons x xs => have := h x List.mem_cons_self; omega
  | succ n ih =>
    intro xs hn h
    have h1 := ih (xs.erase (n : Int)) (hn.erase _) (fun x hx => by
      have hx' := (List.Nodup.mem_erase_iff hn).1 hx
      have := h x hx'.2
      have : x ≠ (n : Int) := hx'.1
      omega)
    have := List.length_erase (a := (n : Int)) (l := xs)
    split at this <;> omega
theorem once_len {n : Nat} {xs : List Int} (h : Once n xs) : xs.length ≤ n := nodup_len n xs h.1 h.2
theorem once_snoc {n : Nat} {xs : List Int} {x : Int} (h : Once n xs) (hx : x ∉ xs) (h0 : 0 ≤ x) (h1 : x < n) : Once n (xs ++ [x]) := by
  refine ⟨List.nodup_append.2 ⟨h.1, by simp, ?_⟩, fun y hy => ?_⟩
  · intro a ha b hb e
    simp at hb; subst hb; subst e; exact hx ha
  · rcases List.mem_append.1 hy with hy | hy
    · exact h.2 y hy
    · simp at hy; subst hy; exact ⟨h0, h1⟩

set_option maxHeartbeats 8000000 in
set_option maxRecDepth 100000 in
theorem Ends_walk (a0_0 : ByteArray) (A0_1 : Option Addr) (c0_1 : Nat) (l1 : List S62) (A0_2 : Option Addr) (c0_2 : Nat) (l2 : List S39) (at0 : Nat) (steps : Nat) (w : World)
    (hr1 : Kd.C k62 w A0_1 l1.length l1) (hc1 : l1.length ≤ c0_1) (hr2 : Kd.C k39 w A0_2 l2.length l2) (hc2 : l2.length ≤ c0_2) (hat : at0 < l1.length) (hn : l1.length ≤ 16) (hs0 : 1 ≤ steps) (hs : steps ≤ 4611686018427387904) (hin : InAll l1 l2)
    (hfin : (rd_T62 l1 at0).f1 = false) :
    Calls Try.prog 55 #[.agg #[.string a0_0, .slice A0_1 l1.length c0_1, .slice A0_2 l2.length c0_2], .int .i64 at0, .int .i64 steps] w fun e w' => e = .returned (.bool (endsK l1 l2 steps [(at0 : Int)])) ∧ Below w.heap.size w w' := by
  have HR1 := Lib.hid hr1
  have HR2 := Lib.hid hr2
  have HIN := Lib.hid hin; clear hin
  have hatz : (at0 : Int) < (l1.length : Int) := by omega
  have hs0' : ((steps : Int) == 0) = false := beq_eq_false_iff_ne.mpr (by omega)
  obtain ⟨ad1, e1, x0, x1⟩ := at_T62 (Kd.C_alloc hr1 (.cells #[.string a0_0, .slice A0_1 l1.length c0_1, .slice A0_2 l2.length c0_2] 25)) at0 (by omega) hatz
  simp only [Int.toNat_natCast] at x0 x1
  rw [hfin] at x1
  cases e1
  clear hr1 hr2 hfin
  obtain ⟨R, hR⟩ : ∃ R, R = endsK l1 l2 steps [(at0 : Int)] := ⟨_, rfl⟩
  rw [← hR]
  have HRR := Lib.hid hR; clear hR
  obtain ⟨W0, hW0⟩ : ∃ W0, W0 = w.alloc (.cells #[.string a0_0, .slice (some ad1) l1.length c0_1, .slice A0_2 l2.length c0_2] 25) := ⟨_, rfl⟩
  have hbw : Below w.heap.size w W0 := by rw [hW0]; exact (Below.refl w.heap.size w).alloc (Nat.le_refl _) _
  have hsz : w.heap.size < W0.heap.size := by rw [hW0]; simp
  have F1 := Lib.hid (show W0.cell? ⟨w.heap.size, 1, none⟩ = some (.slice (some ad1) l1.length c0_1) by rw [hW0, World.cell?_alloc_at _ _ _ _ rfl]; rfl)
  have F2 := Lib.hid (show W0.cell? ⟨w.heap.size, 2, none⟩ = some (.slice A0_2 l2.length c0_2) by rw [hW0, World.cell?_alloc_at _ _ _ _ rfl]; rfl)
  have G1 := Lib.hid (Kd.C_below HR1.out hbw)
  have G2 := Lib.hid (Kd.C_below HR2.out hbw)
  have HB1 : Aside0 (Below W0.heap.size W0 (W0.alloc (.cells #[.int .i64 at0] 3))) := ⟨(Below.refl _ W0).alloc (Nat.le_refl _) _⟩
  have HS : Aside0 (RdI (W0.alloc (.cells #[.int .i64 at0] 3)) (.slice (some ⟨W0.heap.size, 0, none⟩) 1 1) [(at0 : Int)]) := by
    have h := OwnRow.lit (R := (Kd.int .i64).M W0 W0.heap.size (fun k => True ∧ some k ≠ (Value.slice (some ⟨W0.heap.size, 0, none⟩) 1 1).ownBlock)) (e := 3) (size := 1) (ps := [(at0 : Int)]) (inner := [.int .i64 at0]) W0 W0.heap.size ⟨rfl, fun j p hj => by cases j with | zero => cases hj; exact rfl | succ j => simp at hj⟩ (Nat.le_refl _) (by simp)
    exact ⟨R_RdI (ok := fun _ => True) ⟨fun _ _ => trivial, h⟩⟩
  have HO : Aside0 (Once l1.length [(at0 : Int)]) := ⟨by simp, fun x hx => by simp at hx; omega⟩
  clear HR1 HR2
  go_enter Try.func55, Try.ntmps55
  go_wp2
  have hwsz : w.heap.size + 1 = W0.heap.size := by rw [hW0]; simp
  rw [hwsz]
  rw [← hW0]
  clear hwsz
  clear hW0 x0 x1
  go_loopg [7, 8] steps (fun gg s7 s8 wr => ∃ (k : Nat) (set : List Int), k ≤ steps ∧ steps - k ≤ gg ∧ s8 = .int .i64 k ∧ Aside0 (RdI wr s7 set) ∧ Aside0 (Once l1.length set) ∧ Aside0 (endsK l1 l2 (steps - k) set = R) ∧ Aside0 (Below W0.heap.size W0 wr))
  case atStart => exact ⟨0, [(at0 : Int)], Nat.zero_le _, by omega, rfl, HS, HO, ⟨HRR.out.symm⟩, HB1⟩
  case round =>
    clear HS HO HB1 HRR
    obtain ⟨k, set, hk, hg, rfl, HSET, HON, HA, BW⟩ := hrel
    obtain ⟨As, cs, rfl, hcs, hset⟩ := HSET.out
    clear HSET
    have HSET := Lib.hid hset; clear hset
    by_cases hlt : k < steps
    · have hltz : (k : Int) < (steps : Int) := by omega
      obtain ⟨wo, rfl⟩ : ∃ wo : World, wo = wr := ⟨_, rfl⟩
      have HA0 : Aside0 (contK l1 l2 (steps - k - 1) (endsI l1 l2 (set.drop 0) set) = R) := ⟨by
        have := HA.out
        rw [show steps - k = (steps - k - 1) + 1 by omega] at this
        rw [List.drop_zero, ← this]
        simp only [endsK, contK]⟩
      have hsl := Kd.C_max HSET.out
      clear HA
      go_wp2
      go_loopg [9, 10] set.length (fun gi s9 s10 wi => ∃ (i : Nat) (nx : List Int), i ≤ set.length ∧ set.length - i ≤ gi ∧ s10 = .int .i64 i ∧ Aside0 (RdI wi s9 nx) ∧ Aside0 (Once l1.length nx) ∧ Aside0 (contK l1 l2 (steps - k - 1) (endsI l1 l2 (set.drop i) nx) = R) ∧ Aside0 (Below W0.heap.size W0 wi) ∧ Aside0 (Kd.C (Kd.int .i64) wi As set.length set))
      case atStart => exact ⟨0, set, Nat.zero_le _, by omega, rfl, ⟨⟨_, _, rfl, hcs, HSET.out⟩⟩, HON, HA0, BW, ⟨HSET.out⟩⟩
      case round =>
        clear HSET HON HA0 BW
        obtain ⟨i, nx, hi, hgi, rfl, HNX, HON, HA, BW, HSET⟩ := hrel
        obtain ⟨An, cn, rfl, hcn, hnx⟩ := HNX.out
        clear HNX
        have HNX := Aside0.mk hnx; clear hnx
        by_cases hli : i < set.length
        · have hliz : (i : Int) < (set.length : Int) := by omega
          obtain ⟨wo2, rfl⟩ : ∃ wo2 : World, wo2 = wr := ⟨_, rfl⟩
          have hlid : decide (i < set.length) = true := decide_eq_true hli
          obtain ⟨adi, ei, hxi⟩ := Kd.at_int HSET.out i (by omega) hliz
          have hgeti := dropI hli
          rw [Int.toNat_natCast] at hxi
          cases ei
          have HA1 : Aside0 (contK l1 l2 (steps - k - 1) ((endsM l1 (rd set i) (l2.drop 0) nx).bind (endsI l1 l2 (set.drop (i + 1)))) = R) := ⟨by
            have := HA.out; rw [hgeti] at this; exact this⟩
          clear HA hgeti
          have HXI := Lib.hid hxi; clear hxi
          have hml := Kd.C_max G2.out
          go_wp2
          go_loopg [9, 11] l2.length (fun gm s9 s11 wm => ∃ (m : Nat) (nx : List Int), m ≤ l2.length ∧ l2.length - m ≤ gm ∧ s11 = .int .i64 m ∧ Aside0 (RdI wm s9 nx) ∧ Aside0 (Once l1.length nx) ∧ Aside0 (contK l1 l2 (steps - k - 1) ((endsM l1 (rd set i) (l2.drop m) nx).bind (endsI l1 l2 (set.drop (i + 1)))) = R) ∧ Aside0 (Below W0.heap.size W0 wm) ∧ Aside0 (Kd.C (Kd.int .i64) wm (some adi) set.length set))
          case atStart => exact ⟨0, nx, Nat.zero_le _, by omega, rfl, ⟨⟨_, _, rfl, hcn, HNX.out⟩⟩, HON, HA1, BW, HSET⟩
          case round =>
            clear HNX HON HA1 BW HSET HXI
            obtain ⟨m, nx, hm, hgm, rfl, HNX, HON, HA, BW, HSET⟩ := hrel
            obtain ⟨An, cn, rfl, hcn, hnx⟩ := HNX.out
            clear HNX
            have HNX := Aside0.mk hnx; clear hnx
            have f2 := (BW.out.cell (p := ⟨w.heap.size, 2, none⟩) hsz).trans F2.out
            by_cases hlm : m < l2.length
            · have hlmz : (m : Int) < (l2.length : Int) := by omega
              have hlmd : decide (m < l2.length) = true := decide_eq_true hlm
              obtain ⟨wo3, rfl⟩ : ∃ wo3 : World, wo3 = wr := ⟨_, rfl⟩
              obtain ⟨adm, Am, cm, em, hm0, hm1, hm2, hmc, hmo⟩ := at_T39 (Kd.C_below G2.out BW.out) m (by omega) hlmz
              obtain ⟨adi', ei', hxi⟩ := Kd.at_int HSET.out i (by omega) hliz
              cases ei'
              have hgetm := drop39 hlm
              have hmem := rd39_mem hlm
              have HIM := Lib.hid (HIN.out _ hmem); clear hmem
              have HA1 := HA.out
              rw [hgetm] at HA1
              clear hgetm HA
              generalize hmv : rd_T39 l2 m = mv at *
              obtain ⟨v0, v1, v2⟩ := mv
              have HMV := Lib.hid hmv; clear hmv
              simp only at *
              rw [Int.toNat_natCast] at hxi
              simp only [Int.toNat_natCast] at hm0 hm1 hm2
              cases em
              by_cases hv : v1 = rd set i
              · have hv' : (v1 != rd set i) = false := bne_eq_false_iff_eq.mpr hv
                have HA2 : Aside0 (contK l1 l2 (steps - k - 1) (((endsO l1 (v2.drop 0) nx).bind (endsM l1 (rd set i) (l2.drop (m + 1)))).bind (endsI l1 l2 (set.drop (i + 1)))) = R) := ⟨by
                  rw [endsM, if_pos hv] at HA1; exact HA1⟩
                have hol := Kd.C_max hmo
                have HMO := Aside0.mk hmo; clear hmo
                clear HA1 hv
                go_wp2
                go_quiet (fail)
                go_wp2
                go_loopg [9, 12] v2.length (fun go s9 s12 wq => ∃ (o : Nat) (nx : List Int), o ≤ v2.length ∧ v2.length - o ≤ go ∧ s12 = .int .i64 o ∧ Aside0 (RdI wq s9 nx) ∧ Aside0 (Once l1.length nx) ∧ Aside0 (contK l1 l2 (steps - k - 1) (((endsO l1 (v2.drop o) nx).bind (endsM l1 (rd set i) (l2.drop (m + 1)))).bind (endsI l1 l2 (set.drop (i + 1)))) = R) ∧ Aside0 (Below W0.heap.size W0 wq) ∧ Aside0 (Kd.C (Kd.int .i64) wq (some adi) set.length set))
                case atStart => exact ⟨0, nx, Nat.zero_le _, by omega, rfl, ⟨⟨_, _, rfl, hcn, Kd.C_drewN HNX.out _⟩⟩, HON, HA2, ⟨bch BW.out (pw_below_drewN (Below.refl _ _) _)⟩, ⟨Kd.C_drewN HSET.out _⟩⟩
                case round =>
                  clear HNX HON HA2 BW HSET hxi hm0 hm1 hm2 f2 HMO
                  obtain ⟨o, nx, ho, hgo, rfl, HNX, HON, HA, BW, HSET⟩ := hrel
                  obtain ⟨An, cn, rfl, hcn, hnx⟩ := HNX.out
                  clear HNX
                  have f1 := (BW.out.cell (p := ⟨w.heap.size, 1, none⟩) hsz).trans F1.out
                  have f2 := (BW.out.cell (p := ⟨w.heap.size, 2, none⟩) hsz).trans F2.out
                  obtain ⟨adm', Am', cm', em', hm0, hm1, hm2, hmc', hmo⟩ := at_T39 (Kd.C_below G2.out BW.out) m (by omega) hlmz
                  rw [HMV.out] at hm0 hm1 hm2 hmc' hmo
                  simp only at hm0 hm1 hm2 hmc' hmo
                  cases em'
                  simp only [Int.toNat_natCast] at hm0 hm1 hm2
                  have HNX := Aside0.mk hnx; clear hnx
                  by_cases hlo : o < v2.length
                  · have hloz : (o : Int) < (v2.length : Int) := by omega
                    have hlod : decide (o < v2.length) = true := decide_eq_true hlo
                    obtain ⟨ado, eo, ho0, ho1⟩ := at_T42 hmo o (by omega) hloz
                    have hgeto := drop42 hlo
                    have hto := HIM.out _ (rd42_mem hlo)
                    have HA1 := HA.out
                    rw [hgeto] at HA1
                    clear hgeto HA hmo
                    generalize rd_T42 v2 o = ov at *
                    obtain ⟨o0, tq⟩ := ov
                    simp only at *
                    cases eo
                    simp only [Int.toNat_natCast] at ho0 ho1
                    obtain ⟨ht0, ht1⟩ := hto
                    obtain ⟨ad1', e1', hs0, hs1⟩ := at_T62 (Kd.C_below G1.out BW.out) tq ht0 ht1
                    cases e1'
                    obtain ⟨wo4, rfl⟩ : ∃ wo4 : World, wo4 = wr := ⟨_, rfl⟩
                    cases hfin : (rd_T62 l1 tq).f1 with
                    | true =>
                      rw [hfin] at hs1
                      have HRT := Lib.hid (show true = R by rw [endsO, if_pos hfin] at HA1; exact HA1)
                      clear HA1 hfin
                      go_wp2
                      go_ret
                      exact ⟨ret_b HRT.out, bch hbw BW.out⟩
                    | false =>
                      rw [hfin] at hs1
                      rw [endsO, if_neg (by rw [hfin]; simp)] at HA1
                      have HA2 := Aside0.mk HA1
                      clear HA1 hfin
                      have hcall := has_run An cn nx tq wo4 HNX.out hcn (by have := once_len HON.out; omega)
                      cases hcon : nx.contains tq with
                      | true =>
                        rw [hcon] at hcall HA2
                        go_wp2_with fail
                        refine hcall.mono ?_
                        rintro e w5 ⟨rfl, ⟨nq, rfl⟩⟩
                        go_wp2
                        go_roundg (v2.length - (o + 1))
                        case measure => omega
                        case rel => exact ⟨o + 1, nx, by omega, by omega, by go_num, ⟨⟨_, _, rfl, hcn, Kd.C_drewN HNX.out _⟩⟩, HON, HA2, ⟨bch BW.out (pw_below_drewN (Below.refl _ _) _)⟩, ⟨Kd.C_drewN HSET.out _⟩⟩
                      | false =>
                        rw [hcon] at hcall HA2
                        go_wp2_with fail
                        refine hcall.mono ?_
                        rintro e w5 ⟨rfl, ⟨nq, rfl⟩⟩
                        have HEm := Aside0.mk (int_empty (wo4.drewN nq) wo4.heap.size (by simp))
                        have HNX2 := Aside0.mk (Kd.C_alloc (Kd.C_drewN HNX.out nq) (.cells #[] 3))
                        have HB2 := Aside0.mk ((pw_below_drewN (Below.refl wo4.heap.size wo4) nq).trans ((Below.refl _ _).alloc (by simp) (.cells #[] 3)))
                        have hnl := once_len HON.out
                        have HONx := Aside0.mk (once_snoc HON.out (by simpa using hcon) ht0 ht1)
                        have tok1 : True := trivial
                        go_wp2_with (first | (at_builtin; have _t := tok1; refine Kd.R_append_rows (Kd.int .i64) (w0 := wo4) wo4.heap.size rfl _ _ 73 3 (.int .i64 0) 8 rfl Try.underlying73 info3 rfl (by decide) (by decide) _ [] nx An nx.length cn (fun _ => True) (fun _ => False) rfl rfl HEm.out HNX2.out (fun _ _ h => h) (fun _ h => h.elim) (fun _ _ => trivial) HB2.out (by simp) (by simp; omega) ?_; intro v1 w1 hR1 hB1 hg1 _hat1; have HR1' := Aside0.mk hR1; have HB1' := Aside0.mk hB1; have hbs := hB1.size; clear hR1 hB1 hg1 _hat1 tok1) | (at_builtin; refine Kd.R_append (Kd.int .i64) (w0 := wo4) wo4.heap.size rfl _ _ 73 3 (.int .i64 0) 8 rfl Try.underlying73 info3 rfl (by decide) (by decide) v1 ([] ++ nx) tq [.int .i64 tq] (fun _ => True) (fun _ => False) rfl rfl rfl (fun _ h => h.elim) (fun _ _ => trivial) HR1'.out HB1'.out hbs (by simp; omega) ?_; intro v2' w2 hR2 hB2 hg2 _hat2; have HR2' := Aside0.mk (R_RdI hR2); have HB2' := Aside0.mk hB2; clear hR2 hB2 hg2 _hat2))
                        go_roundg (v2.length - (o + 1))
                        case measure => omega
                        case rel => exact ⟨o + 1, nx ++ [tq], by omega, by omega, by go_num, HR2', HONx, HA2, ⟨bch BW.out HB2'.out⟩, ⟨Kd.C_below HSET.out HB2'.out⟩⟩
                  · have hloz : ¬ (o : Int) < (v2.length : Int) := by omega
                    have hlod : decide (o < v2.length) = false := decide_eq_false hlo
                    have HA1 : Aside0 (contK l1 l2 (steps - k - 1) ((endsM l1 (rd set i) (l2.drop (m + 1)) nx).bind (endsI l1 l2 (set.drop (i + 1)))) = R) := ⟨by
                      have := HA.out; rw [List.drop_of_length_le (by omega : v2.length ≤ o)] at this; exact this⟩
                    clear HA hmo
                    go_wp2
                    go_roundg (l2.length - (m + 1))
                    case measure => omega
                    case rel => exact ⟨m + 1, nx, by omega, by omega, by go_num, ⟨⟨_, _, rfl, hcn, HNX.out⟩⟩, HON, HA1, BW, HSET⟩
              · have hv' : (v1 != rd set i) = true := bne_iff_ne.mpr hv
                have HA2 : Aside0 (contK l1 l2 (steps - k - 1) ((endsM l1 (rd set i) (l2.drop (m + 1)) nx).bind (endsI l1 l2 (set.drop (i + 1)))) = R) := ⟨by
                  rw [endsM, if_neg hv] at HA1; exact HA1⟩
                clear HA1 hv
                go_wp2
                go_quiet (fail)
                go_wp2
                go_roundg (l2.length - (m + 1))
                case measure => omega
                case rel => exact ⟨m + 1, nx, by omega, by omega, by go_num, ⟨⟨_, _, rfl, hcn, Kd.C_drewN HNX.out _⟩⟩, HON, HA2, ⟨bch BW.out (pw_below_drewN (Below.refl _ _) _)⟩, ⟨Kd.C_drewN HSET.out _⟩⟩
            · have hlmz : ¬ (m : Int) < (l2.length : Int) := by omega
              have hlmd : decide (m < l2.length) = false := decide_eq_false hlm
              have HA1 : Aside0 (contK l1 l2 (steps - k - 1) (endsI l1 l2 (set.drop (i + 1)) nx) = R) := ⟨by
                have := HA.out; rw [List.drop_of_length_le (by omega : l2.length ≤ m)] at this; exact this⟩
              clear HA
              go_wp2
              go_roundg (set.length - (i + 1))
              case measure => omega
              case rel => exact ⟨i + 1, nx, by omega, by omega, by go_num, ⟨⟨_, _, rfl, hcn, HNX.out⟩⟩, HON, HA1, BW, HSET⟩
        · have hliz : ¬ (i : Int) < (set.length : Int) := by omega
          have hlid : decide (i < set.length) = false := decide_eq_false hli
          have HA1 : Aside0 (endsK l1 l2 (steps - (k + 1)) nx = R) := ⟨by
            have := HA.out; rw [List.drop_of_length_le (by omega : set.length ≤ i)] at this; exact this⟩
          clear HA
          go_wp2
          go_roundg (steps - (k + 1))
          case measure => omega
          case rel => exact ⟨k + 1, nx, by omega, by omega, by go_num, ⟨⟨_, _, rfl, hcn, HNX.out⟩⟩, HON, HA1, BW⟩
    · have hltz : ¬ (k : Int) < (steps : Int) := by omega
      go_wp2
      go_ret
      refine ⟨ret_b ?_, bch hbw BW.out⟩
      have := HA.out
      rw [show steps - k = 0 by omega] at this
      rw [← this]; rfl

instance (l1 : List S62) (l2 : List S39) : Decidable (InAll l1 l2) := by unfold InAll; infer_instance

/-- Ends, as the print's callers take it. -/
def ballcockref09_Ends.f (a0_0 : ByteArray) (l0_1 : List S62) (l0_2 : List S39) (a1 : Int) (a2 : Int) : Option Bool :=
  if 0 ≤ a1 ∧ a1 < l0_1.length ∧ l0_1.length ≤ 16 ∧ 1 ≤ a2 ∧ a2 ≤ 4611686018427387904 ∧ InAll l0_1 l0_2 then some (if (rd_T62 l0_1 a1).f1 = true then true else endsK l0_1 l0_2 a2.toNat [a1]) else none
set_option maxHeartbeats 1000000 in
theorem ballcockref09_Ends.calls (a0_0 : ByteArray) (A0_1 : Option Addr) (c0_1 : Nat) (l0_1 : List (S62)) (A0_2 : Option Addr) (c0_2 : Nat) (l0_2 : List (S39)) (a1 : Int) (a2 : Int) (r : Bool) (w : World) (hr0_1 : Kd.C k62 w A0_1 l0_1.length l0_1) (hc0_1 : l0_1.length ≤ c0_1) (hr0_2 : Kd.C k39 w A0_2 l0_2.length l0_2) (hc0_2 : l0_2.length ≤ c0_2) (h : ballcockref09_Ends.f a0_0 l0_1 l0_2 a1 a2 = some r) :
    Calls Try.prog 55 #[.agg #[.string a0_0, .slice A0_1 l0_1.length c0_1, .slice A0_2 l0_2.length c0_2], .int .i64 a1, .int .i64 a2] w fun e w' => e = .returned (.bool r) ∧ Below w.heap.size w w' := by
  unfold ballcockref09_Ends.f at h
  by_cases h1 : 0 ≤ a1 ∧ a1 < l0_1.length ∧ l0_1.length ≤ 16 ∧ 1 ≤ a2 ∧ a2 ≤ 4611686018427387904 ∧ InAll l0_1 l0_2
  · rw [if_pos h1] at h
    obtain rfl := Option.some.inj h
    obtain ⟨p1, p2, p3, p4, p5, p6⟩ := h1
    obtain ⟨i, rfl⟩ := Int.eq_ofNat_of_zero_le p1
    obtain ⟨s, rfl⟩ := Int.eq_ofNat_of_zero_le (by omega : 0 ≤ a2)
    rw [Int.toNat_natCast]
    cases hf : (rd_T62 l0_1 i).f1 with
    | true =>
      rw [if_pos rfl]
      have hiz : (i : Int) < (l0_1.length : Int) := p2
      obtain ⟨ad1, e1, x0, x1⟩ := at_T62 (Kd.C_alloc hr0_1 (.cells #[.string a0_0, .slice A0_1 l0_1.length c0_1, .slice A0_2 l0_2.length c0_2] 25)) i (by omega) hiz
      simp only [Int.toNat_natCast] at x0 x1
      rw [hf] at x1
      cases e1
      have hb := (Below.refl w.heap.size w).alloc (Nat.le_refl _) (.cells #[.string a0_0, .slice (some ad1) l0_1.length c0_1, .slice A0_2 l0_2.length c0_2] 25)
      clear hr0_1 hr0_2 h p6 hf
      go_enter Try.func55, Try.ntmps55
      go_wp2
      go_ret
      exact ⟨rfl, hb⟩
    | false =>
      rw [if_neg (by simp)]
      exact Ends_walk a0_0 A0_1 c0_1 l0_1 A0_2 c0_2 l0_2 i s w hr0_1 hc0_1 hr0_2 hc0_2 (by omega) p3 (by omega) (by omega) p6 hf
  · rw [if_neg h1] at h
    cases h
end Go.Proofs.Ytkgcfgoaabkcpaa.Pa


/-! ## part E3 -/
namespace Go.Proofs.Ytkgcfgoaabkcpaa.Pa
open Go.RowKit Go.Proofs.YtkgcfgoaabkcpaaW.PrintWords Go.Proofs.YtkgcfgoaabkcpaaW.PrintLast Go.Proofs.YtkgcfgoaabkcpaaW.PrintMore
set_option linter.unusedVariables false
set_option linter.unusedSimpArgs false

theorem C_none {α : Type} {d : Kd α} {w : World} {n : Nat} {xs : List α} (h : d.C w none n xs) : n = 0 := by
  by_cases hn : 0 < n
  · obtain ⟨ad, he, _⟩ := h.2.2 hn
    cases he
  · omega
theorem empty_row {α : Type} (d : Kd α) (e : Nat) (W : World) (base : Nat) (hb : base ≤ W.heap.size) : d.R e (W.alloc (.cells #[] e)) base (fun _ => True) (.slice (some ⟨W.heap.size, 0, none⟩) 0 0) [] :=
  ⟨fun _ _ => trivial, OwnRow.lit (inner := []) (ps := []) W base (Reps.none _ _) hb (by simp)⟩


theorem infoc42 : ∃ z b, (Try.prog.info? 42).map (fun i => (i.zero, i.size, i.bytes)) = some (some z, k42.sz, b) ∧ z.cells.size = k42.sz ∧ 0 < b ∧ b ≤ 1000 := ⟨(.agg #[.string ⟨#[]⟩, .int .i64 0]), 24, by kernel_rfl, rfl, by decide, by decide⟩
set_option maxHeartbeats 2000000 in
theorem clone42 (A : Option Addr) (c : Nat) (l : List S42) (w0 w : World) (hr : Kd.C k42 w0 A l.length l) (hbw : Below w0.heap.size w0 w) (hc : l.length ≤ c) (hl : l.length ≤ 1000000) :
    Calls Try.prog 66 #[.slice A l.length c] w fun e w' => ∃ A' c', e = .returned (.slice A' l.length c') ∧ (Kd.fixed k42 w0).R 42 w' w.heap.size (fun _ => True) (.slice A' l.length c') l ∧ Below w.heap.size w w' := by
  have qT : ∀ (w : World) (a : Option Addr) (n c n' c' : Nat), (binOp .eql 37 (.slice a n c) (.slice none n' c')).run Try.prog w = .ok (.bool a.isNone) w := fun w a n c n' c' => Lib.run_eql_slice_nil w _ _ a n c n' c' Try.underlying37
  obtain ⟨z, b, hi, hz, hb0, hb1⟩ := infoc42
  have HI := Lib.hid hi; clear hi
  cases A with
  | none =>
    have h0 := C_none hr
    have h0' : l = [] := List.length_eq_zero_iff.1 h0
    subst h0'
    clear h0 hr hl hbw
    go_enter Try.func66, Try.ntmps66
    go_wp2
    go_ret
    exact ⟨none, 0, rfl, Kd.R_nil _ _ _ _ _, Below.refl _ _⟩
  | some ad =>
    have HEm := Aside0.mk (empty_row (Kd.fixed k42 w0) 42 w w.heap.size (Nat.le_refl _))
    have HB := Aside0.mk ((Below.refl w.heap.size w).alloc (Nat.le_refl _) (.cells #[] 42))
    have HR : Aside0 (ReadsRow (k42.K w0) (Kd.fixed k42 w0).sz (w.alloc (.cells #[] 42)) (some ad) l.length l) := ⟨ReadsRow.imp_ hr (bch hbw HB.out) (fun _ _ hp => hp)⟩
    have hlim : l.length * b ≤ 140737488355328 := Nat.le_trans (Nat.mul_le_mul hl hb1) (by decide)
    clear hr hbw
    go_enter Try.func66, Try.ntmps66
    go_wp2_with (at_builtin; refine Kd.R_append_rows (Kd.fixed k42 w0) (w0 := w) w.heap.size rfl _ _ 37 42 z b rfl Try.underlying37 HI.out hz (show 0 < k42.sz by decide) hb0 _ [] l (some ad) l.length c (fun _ => True) (fun _ => False) rfl rfl HEm.out HR.out (fun _ _ h => h) (fun _ h => h.elim) (fun _ _ => trivial) HB.out (by simp) (by simpa using hlim) ?_; intro v1 w1 hR1 hB1 hg1 _hat1; have HR1' := Aside0.mk hR1; have HB1' := Aside0.mk hB1; clear hR1 hB1 hg1 _hat1)
    go_ret
    obtain ⟨A', c', hv⟩ := Kd.R_slice HR1'.out
    exact ⟨A', c', congrArg Ending.returned hv, hv ▸ HR1'.out, HB1'.out⟩


theorem infoc62 : ∃ z b, (Try.prog.info? 62).map (fun i => (i.zero, i.size, i.bytes)) = some (some z, k62.sz, b) ∧ z.cells.size = k62.sz ∧ 0 < b ∧ b ≤ 1000 := ⟨(.agg #[.string ⟨#[]⟩, .bool false]), 24, by kernel_rfl, rfl, by decide, by decide⟩
set_option maxHeartbeats 2000000 in
theorem clone62 (A : Option Addr) (c : Nat) (l : List S62) (w0 w : World) (hr : Kd.C k62 w0 A l.length l) (hbw : Below w0.heap.size w0 w) (hc : l.length ≤ c) (hl : l.length ≤ 1000000) :
    Calls Try.prog 94 #[.slice A l.length c] w fun e w' => ∃ A' c', e = .returned (.slice A' l.length c') ∧ (Kd.fixed k62 w0).R 62 w' w.heap.size (fun _ => True) (.slice A' l.length c') l ∧ Below w.heap.size w w' := by
  have qT : ∀ (w : World) (a : Option Addr) (n c n' c' : Nat), (binOp .eql 22 (.slice a n c) (.slice none n' c')).run Try.prog w = .ok (.bool a.isNone) w := fun w a n c n' c' => Lib.run_eql_slice_nil w _ _ a n c n' c' Try.underlying22
  obtain ⟨z, b, hi, hz, hb0, hb1⟩ := infoc62
  have HI := Lib.hid hi; clear hi
  cases A with
  | none =>
    have h0 := C_none hr
    have h0' : l = [] := List.length_eq_zero_iff.1 h0
    subst h0'
    clear h0 hr hl hbw
    go_enter Try.func94, Try.ntmps94
    go_wp2
    go_ret
    exact ⟨none, 0, rfl, Kd.R_nil _ _ _ _ _, Below.refl _ _⟩
  | some ad =>
    have HEm := Aside0.mk (empty_row (Kd.fixed k62 w0) 62 w w.heap.size (Nat.le_refl _))
    have HB := Aside0.mk ((Below.refl w.heap.size w).alloc (Nat.le_refl _) (.cells #[] 62))
    have HR : Aside0 (ReadsRow (k62.K w0) (Kd.fixed k62 w0).sz (w.alloc (.cells #[] 62)) (some ad) l.length l) := ⟨ReadsRow.imp_ hr (bch hbw HB.out) (fun _ _ hp => hp)⟩
    have hlim : l.length * b ≤ 140737488355328 := Nat.le_trans (Nat.mul_le_mul hl hb1) (by decide)
    clear hr hbw
    go_enter Try.func94, Try.ntmps94
    go_wp2_with (at_builtin; refine Kd.R_append_rows (Kd.fixed k62 w0) (w0 := w) w.heap.size rfl _ _ 22 62 z b rfl Try.underlying22 HI.out hz (show 0 < k62.sz by decide) hb0 _ [] l (some ad) l.length c (fun _ => True) (fun _ => False) rfl rfl HEm.out HR.out (fun _ _ h => h) (fun _ h => h.elim) (fun _ _ => trivial) HB.out (by simp) (by simpa using hlim) ?_; intro v1 w1 hR1 hB1 hg1 _hat1; have HR1' := Aside0.mk hR1; have HB1' := Aside0.mk hB1; clear hR1 hB1 hg1 _hat1)
    go_ret
    obtain ⟨A', c', hv⟩ := Kd.R_slice HR1'.out
    exact ⟨A', c', congrArg Ending.returned hv, hv ▸ HR1'.out, HB1'.out⟩


theorem infoc39 : ∃ z b, (Try.prog.info? 39).map (fun i => (i.zero, i.size, i.bytes)) = some (some z, k39.sz, b) ∧ z.cells.size = k39.sz ∧ 0 < b ∧ b ≤ 1000 := ⟨(.agg #[.string ⟨#[]⟩, .int .i64 0, .slice none 0 0]), 48, by kernel_rfl, rfl, by decide, by decide⟩
set_option maxHeartbeats 2000000 in
theorem clone39 (A : Option Addr) (c : Nat) (l : List S39) (w0 w : World) (hr : Kd.C k39 w0 A l.length l) (hbw : Below w0.heap.size w0 w) (hc : l.length ≤ c) (hl : l.length ≤ 1000000) :
    Calls Try.prog 95 #[.slice A l.length c] w fun e w' => ∃ A' c', e = .returned (.slice A' l.length c') ∧ (Kd.fixed k39 w0).R 39 w' w.heap.size (fun _ => True) (.slice A' l.length c') l ∧ Below w.heap.size w w' := by
  have qT : ∀ (w : World) (a : Option Addr) (n c n' c' : Nat), (binOp .eql 23 (.slice a n c) (.slice none n' c')).run Try.prog w = .ok (.bool a.isNone) w := fun w a n c n' c' => Lib.run_eql_slice_nil w _ _ a n c n' c' Try.underlying23
  obtain ⟨z, b, hi, hz, hb0, hb1⟩ := infoc39
  have HI := Lib.hid hi; clear hi
  cases A with
  | none =>
    have h0 := C_none hr
    have h0' : l = [] := List.length_eq_zero_iff.1 h0
    subst h0'
    clear h0 hr hl hbw
    go_enter Try.func95, Try.ntmps95
    go_wp2
    go_ret
    exact ⟨none, 0, rfl, Kd.R_nil _ _ _ _ _, Below.refl _ _⟩
  | some ad =>
    have HEm := Aside0.mk (empty_row (Kd.fixed k39 w0) 39 w w.heap.size (Nat.le_refl _))
    have HB := Aside0.mk ((Below.refl w.heap.size w).alloc (Nat.le_refl _) (.cells #[] 39))
    have HR : Aside0 (ReadsRow (k39.K w0) (Kd.fixed k39 w0).sz (w.alloc (.cells #[] 39)) (some ad) l.length l) := ⟨ReadsRow.imp_ hr (bch hbw HB.out) (fun _ _ hp => hp)⟩
    have hlim : l.length * b ≤ 140737488355328 := Nat.le_trans (Nat.mul_le_mul hl hb1) (by decide)
    clear hr hbw
    go_enter Try.func95, Try.ntmps95
    go_wp2_with (at_builtin; refine Kd.R_append_rows (Kd.fixed k39 w0) (w0 := w) w.heap.size rfl _ _ 23 39 z b rfl Try.underlying23 HI.out hz (show 0 < k39.sz by decide) hb0 _ [] l (some ad) l.length c (fun _ => True) (fun _ => False) rfl rfl HEm.out HR.out (fun _ _ h => h) (fun _ h => h.elim) (fun _ _ => trivial) HB.out (by simp) (by simpa using hlim) ?_; intro v1 w1 hR1 hB1 hg1 _hat1; have HR1' := Aside0.mk hR1; have HB1' := Aside0.mk hB1; clear hR1 hB1 hg1 _hat1)
    go_ret
    obtain ⟨A', c', hv⟩ := Kd.R_slice HR1'.out
    exact ⟨A', c', congrArg Ending.returned hv, hv ▸ HR1'.out, HB1'.out⟩

end Go.Proofs.Ytkgcfgoaabkcpaa.Pa


/-! ## part E4 -/
namespace Go.Proofs.Ytkgcfgoaabkcpaa.Pa
open Go.RowKit Go.Proofs.YtkgcfgoaabkcpaaW.PrintWords Go.Proofs.YtkgcfgoaabkcpaaW.PrintLast Go.Proofs.YtkgcfgoaabkcpaaW.PrintMore
set_option linter.unusedVariables false
set_option linter.unusedSimpArgs false

/-- What clone's first statement leaves: its box holds two rows of its own. -/
def Cloned (w0 w wc : World) (a0 : ByteArray) (l1 : List S62) (l2 : List S39) : Prop :=
  ∃ v1 v2, wc.heap[w.heap.size]? = some (.cells #[.string a0, v1, v2] 25 (0, 0)) ∧ wc.heap[w.heap.size + 1]? = some (.cells #[.string ⟨#[]⟩, .slice none 0 0, .slice none 0 0] 25 (0, 0)) ∧ Below w.heap.size w wc ∧
    (Kd.fixed k62 w0).R 62 wc (w.heap.size + 2) (fun k => w.heap.size + 2 ≤ k) v1 l1 ∧ (Kd.fixed k39 w0).R 39 wc (w.heap.size + 2) (fun k => w.heap.size + 2 ≤ k) v2 l2
theorem R_from {α : Type} {d : Kd α} {e : Nat} {w : World} {base : Nat} {v : Value} {xs : List α} (h : d.R e w base (fun _ => True) v xs) : d.R e w base (fun k => base ≤ k) v xs :=
  Kd.R_mono (Kd.R_bound h) (fun _ hk => hk.2.1)
theorem cloned_mk {w0 w W2 w1 w2 : World} {a0 : ByteArray} {l1 : List S62} {l2 : List S39} {u1 u2 v1 v2 : Value} (hbw : Below w.heap.size w W2) (hsz : W2.heap.size = w.heap.size + 2)
    (hk0 : W2.heap[w.heap.size]? = some (.cells #[.string a0, u1, u2] 25 (0, 0))) (hk1 : W2.heap[w.heap.size + 1]? = some (.cells #[.string ⟨#[]⟩, .slice none 0 0, .slice none 0 0] 25 (0, 0)))
    (hb1 : Below W2.drew.heap.size W2.drew w1) (hv1 : (Kd.fixed k62 w0).R 62 w1 W2.drew.heap.size (fun _ => True) v1 l1)
    (hb2 : Below w1.heap.size w1 w2) (hv2 : (Kd.fixed k39 w0).R 39 w2 w1.heap.size (fun _ => True) v2 l2) :
    Cloned w0 w ((w2.setCell ⟨w.heap.size, 1, none⟩ v1).setCell ⟨w.heap.size, 2, none⟩ v2) a0 l1 l2 := by
  have hs : W2.drew.heap.size = w.heap.size + 2 := hsz
  have hb1' : Below (w.heap.size + 2) W2.drew w1 := hs ▸ hb1
  have hs1 : w.heap.size + 2 ≤ w1.heap.size := hs ▸ hb1.size
  have hb12 : Below (w.heap.size + 2) W2.drew w2 := hb1'.trans (hb2.mono hs1)
  have hw2 : Below w.heap.size w w2 := (Below.drew hbw).trans (hb12.mono (by omega))
  refine ⟨v1, v2, ?_, ?_, ?_, ?_, ?_⟩
  · have h := (hb12.block w.heap.size (by omega)).trans (show W2.drew.heap[w.heap.size]? = _ from hk0)
    exact blk_put (blk_put h 1 v1 rfl) 2 v2 rfl
  · rw [Below.heap_setCell _ _ _ _ (by simp), Below.heap_setCell _ _ _ _ (by simp)]
    exact (hb12.block (w.heap.size + 1) (by omega)).trans hk1
  · exact (hw2.setCell (by simp) _).setCell (by simp) _
  · refine Kd.R_far (Kd.R_far ?_ (fun k hk => by simp; omega) _) (fun k hk => by simp; omega) _
    have := R_from hv1
    rw [hs] at this
    exact Kd.R_below this hb2
  · refine Kd.R_far (Kd.R_far ?_ (fun k hk => by simp; omega) _) (fun k hk => by simp; omega) _
    exact Kd.R_lower (Kd.R_mono (R_from hv2) (fun k hk => Nat.le_trans hs1 hk)) hs1

/-- A move whose outcomes came in, or were made. -/
def d2 (w0 : World) : Kd S39 := Kd.iso (Kd.pair Kd.string (Kd.pair (Kd.int .i64) (Kd.mix 42 k42 k42 w0))) (fun x : S39 => (x.f0, x.f1, x.f2))
theorem d2_of_fixed {w W : World} {base : Nat} {ok : Nat → Prop} {v : Value} {l2 : List S39} (h : (Kd.fixed k39 w).R 39 W base ok v l2) : (d2 w).R 39 W base ok v l2 := by
  obtain ⟨h0, inner, ho, hr⟩ := h
  refine ⟨h0, inner, ho, hr.imp_ (fun x cs hx => ?_)⟩
  obtain ⟨A, c, rfl, hl, hc⟩ := k39_open (show k39.K w x cs from hx)
  exact ⟨[.string x.f0], [.int .i64 x.f1, .slice A x.f2.length c], rfl, rfl, [.int .i64 x.f1], [.slice A x.f2.length c], rfl, rfl, Kd.mix_came hl hc⟩

theorem blk_lt {w : World} {g : Nat} {o : Obj} (h : w.heap[g]? = some o) : g < w.heap.size := by
  by_cases hg : g < w.heap.size
  · exact hg
  · rw [Array.getElem?_eq_none (by omega)] at h; cases h
/-- An element of the row of moves. -/
theorem row_elem {w W : World} {base : Nat} {ok : Nat → Prop} {A : Option Addr} {c : Nat} {l2 : List S39} (hbw : Below w.heap.size w W) (h : (d2 w).R 39 W base ok (.slice A l2.length c) l2) {i : Nat} (hi : i < l2.length) :
    ∃ g cap cur, (Value.slice A l2.length c) = .slice (some ⟨g, 0, none⟩) l2.length cap ∧ base ≤ g ∧ W.heap[g]? = some (.cells cur 39 (0, 0)) ∧ ∃ A' c', Kd.C k42 W A' (rd_T39 l2 i).f2.length (rd_T39 l2 i).f2 ∧ (rd_T39 l2 i).f2.length ≤ c' ∧ W.cell? ⟨g, i * 3, none⟩ = some (.string (rd_T39 l2 i).f0) ∧ W.cell? ⟨g, i * 3 + 1, none⟩ = some (.int .i64 (rd_T39 l2 i).f1) ∧ W.cell? ⟨g, i * 3 + 2, none⟩ = some (.slice A' (rd_T39 l2 i).f2.length c') := by
  obtain ⟨inner, ho⟩ := Kd.R_own h
  rcases ho.2 with ⟨_, h0⟩ | ⟨g, cap, cur, he, hg, hh, _⟩
  · omega
  refine ⟨g, cap, cur, he, hg, hh, ?_⟩
  obtain ⟨A1, c1, he1, _, hC⟩ := Kd.R_reads h
  rw [he] at he1
  injection he1 with ha _ hc
  subst ha
  obtain ⟨ad, cs, ea, hl, hK, hcs⟩ := Kd.C_get hC z39 i (by omega) (by omega)
  cases ea
  obtain ⟨_, _, rfl, rfl, _, _, rfl, rfl, hm⟩ := hK
  obtain ⟨A', c', rfl, hl', hr'⟩ := Kd.mix_read rfl (fun _ _ hx => hx) hbw hm
  refine ⟨A', c', hr', hl', ?_, ?_, ?_⟩
  · have := hcs 0 _ rfl; rw [show (d2 w).sz = 3 from rfl] at this; unfold rd_T39; simpa only [Addr.add_lit, Nat.zero_add, Nat.add_zero, Int.toNat_natCast] using this
  · have := hcs 1 _ rfl; rw [show (d2 w).sz = 3 from rfl] at this; unfold rd_T39; simpa only [Addr.add_lit, Nat.zero_add, Nat.add_zero, Int.toNat_natCast] using this
  · have := hcs 2 _ rfl; rw [show (d2 w).sz = 3 from rfl] at this; unfold rd_T39; simpa only [Addr.add_lit, Nat.zero_add, Nat.add_zero, Int.toNat_natCast] using this
theorem d2_k39 {w W : World} (hbw : Below w.heap.size w W) {x : S39} {cs : List Value} (h : (d2 w).K W x cs) : k39.K W x cs := by
  obtain ⟨_, _, rfl, rfl, _, _, rfl, rfl, hm⟩ := h
  obtain ⟨A', c', rfl, hl', hr'⟩ := Kd.mix_read rfl (fun _ _ hx => hx) hbw hm
  exact k39_mk W x hl' hr'
theorem k42_fixed {w0 W : World} {base : Nat} {ok : Nat → Prop} {v : Value} {l : List S42} (h : (Kd.fixed k42 w0).R 42 W base ok v l) : k42.R 42 W base ok v l := by
  obtain ⟨h0, inner, ho, hr⟩ := h
  refine ⟨h0, inner, ho, hr.imp_ (fun x cs hx => ?_)⟩
  obtain rfl := k42_open (show k42.K w0 x cs from hx)
  exact k42_mkM _ _ _ _
theorem set_getD {α : Type} (l : List α) (i : Nat) (d : α) (h : i < l.length) : l.set i (l.getD i d) = l := by
  apply List.ext_getElem?
  intro j
  by_cases e : i = j
  · subst e; simp [h]
  · rw [List.getElem?_set_ne e]
theorem round_mk {w0 w wr w1 : World} {a0 : ByteArray} {v1 u1 u2 : Value} {l1 : List S62} {l2 : List S39} {g c2 : Nat} {Ay : Option Addr} {cy i : Nat}
    (hk0 : wr.heap[w.heap.size]? = some (.cells #[.string a0, u1, u2] 25 (0, 0))) (hk1 : wr.heap[w.heap.size + 1]? = some (.cells #[.string ⟨#[]⟩, .slice none 0 0, .slice none 0 0] 25 (0, 0))) (hbw : Below w.heap.size w wr) (hb0 : Below w0.heap.size w0 w)
    (hv1 : (Kd.fixed k62 w0).R 62 wr (w.heap.size + 2) (fun k => w.heap.size + 2 ≤ k) v1 l1) (hv2 : (d2 w0).R 39 wr (w.heap.size + 2) (fun k => w.heap.size + 2 ≤ k) (.slice (some ⟨g, 0, none⟩) l2.length c2) l2) (hi : i < l2.length)
    (hb : Below wr.heap.size wr.drew w1) (hy : (Kd.fixed k42 wr).R 42 w1 wr.heap.size (fun _ => True) (.slice Ay (rd_T39 l2 i).f2.length cy) (rd_T39 l2 i).f2) :
    (w1.setCell ⟨g, i * 3 + 2, none⟩ (.slice Ay (rd_T39 l2 i).f2.length cy)).heap[w.heap.size]? = some (.cells #[.string a0, u1, u2] 25 (0, 0)) ∧ (w1.setCell ⟨g, i * 3 + 2, none⟩ (.slice Ay (rd_T39 l2 i).f2.length cy)).heap[w.heap.size + 1]? = some (.cells #[.string ⟨#[]⟩, .slice none 0 0, .slice none 0 0] 25 (0, 0)) ∧ Below w.heap.size w (w1.setCell ⟨g, i * 3 + 2, none⟩ (.slice Ay (rd_T39 l2 i).f2.length cy)) ∧
    (Kd.fixed k62 w0).R 62 (w1.setCell ⟨g, i * 3 + 2, none⟩ (.slice Ay (rd_T39 l2 i).f2.length cy)) (w.heap.size + 2) (fun k => w.heap.size + 2 ≤ k) v1 l1 ∧ (d2 w0).R 39 (w1.setCell ⟨g, i * 3 + 2, none⟩ (.slice Ay (rd_T39 l2 i).f2.length cy)) (w.heap.size + 2) (fun k => w.heap.size + 2 ≤ k) (.slice (some ⟨g, 0, none⟩) l2.length c2) l2 := by
  have hs0 : w.heap.size < wr.heap.size := blk_lt hk0
  have hs1 : w.heap.size + 1 < wr.heap.size := blk_lt hk1
  have hb' : Below wr.heap.size wr w1 := (Below.drew (Below.refl _ _)).trans hb
  obtain ⟨g', cap, cur, he, hgb, hgh, A', c', hA', hc', hx0, hx1, hx2⟩ := row_elem (bch hb0 hbw) hv2 hi
  injection he with he1 _ _
  injection he1 with he1
  injection he1 with he1 _ _
  subst he1
  have hgl : g < wr.heap.size := blk_lt hgh
  have hgh1 : w1.heap[g]? = some (.cells cur 39 (0, 0)) := (hb'.block g hgl).trans hgh
  have hv21 := Kd.R_below hv2 hb'
  refine ⟨?_, ?_, ?_, ?_, ?_⟩
  · rw [Below.heap_setCell _ _ _ _ (by simp; omega)]; exact (hb'.block _ hs0).trans hk0
  · rw [Below.heap_setCell _ _ _ _ (by simp; omega)]; exact (hb'.block _ hs1).trans hk1
  · exact (bch hbw hb').setCell (by simp; omega) _
  · exact Kd.R_set (Kd.R_below hv1 hb') hgh1 (by simp [Kd.fixed]) _ _
  · have hseg := (Kd.R_seg (okp := fun k => wr.heap.size ≤ k) hv21 i (by omega) (by omega) (c := [.string (rd_T39 l2 i).f0, .int .i64 (rd_T39 l2 i).f1, .slice A' (rd_T39 l2 i).f2.length c']) (seg := [.slice Ay (rd_T39 l2 i).f2.length cy]) (j := 2) rfl
      (fun j u hu => by
        have hd : (d2 w0).sz = 3 := rfl
        rw [hd, Int.toNat_natCast]
        rw [hb'.cell (p := ⟨g, i * 3 + j, none⟩) hgl]
        match j, hu with
        | 0, hu => cases hu; exact hx0
        | 1, hu => cases hu; exact hx1
        | 2, hu => cases hu; exact hx2)
      (show 2 + 1 ≤ 3 by decide) (x' := rd_T39 l2 i) ⟨[.string (rd_T39 l2 i).f0], [.int .i64 (rd_T39 l2 i).f1, .slice Ay (rd_T39 l2 i).f2.length cy], rfl, rfl, [.int .i64 (rd_T39 l2 i).f1], [.slice Ay (rd_T39 l2 i).f2.length cy], rfl, rfl, Kd.mix_made (Kd.R_lower (k42_fixed (R_from hy)) (by omega))⟩ (fun k hk => ⟨by omega, by omega⟩)).1
    rw [Int.toNat_natCast] at hseg
    have : l2.set i (rd_T39 l2 i) = l2 := set_getD l2 i z39 hi
    rw [this] at hseg
    exact hseg

set_option maxHeartbeats 4000000 in
theorem clone_own (a0 : ByteArray) (A1 : Option Addr) (c1 : Nat) (l1 : List S62) (A2 : Option Addr) (c2 : Nat) (l2 : List S39) (w0 w : World) (hb0 : Below w0.heap.size w0 w)
    (hr1 : Kd.C k62 w0 A1 l1.length l1) (hc1 : l1.length ≤ c1) (hr2 : Kd.C k39 w0 A2 l2.length l2) (hc2 : l2.length ≤ c2) (hl1 : l1.length ≤ 1000) (hl2 : l2.length ≤ 1000) (hl3 : ∀ m ∈ l2, m.f2.length ≤ 1000) :
    Calls Try.prog 56 #[.agg #[.string a0, .slice A1 l1.length c1, .slice A2 l2.length c2]] w fun e w' => ∃ A1' c1' A2' c2', e = .returned (.agg #[.string a0, .slice A1' l1.length c1', .slice A2' l2.length c2']) ∧ (Kd.fixed k62 w0).R 62 w' w.heap.size (fun k => w.heap.size ≤ k) (.slice A1' l1.length c1') l1 ∧ (d2 w0).R 39 w' w.heap.size (fun k => w.heap.size ≤ k) (.slice A2' l2.length c2') l2 ∧ Below w.heap.size w w' := by
  have HR1 := Aside0.mk hr1
  have HR2 := Aside0.mk hr2
  have HL3 := Lib.hid hl3
  clear hr1 hr2 hl3
  obtain ⟨W2, hW2⟩ : ∃ W2, W2 = (w.alloc (.cells #[.string a0, .slice A1 l1.length c1, .slice A2 l2.length c2] 25)).alloc (.cells #[.string ⟨#[]⟩, .slice none 0 0, .slice none 0 0] 25) := ⟨_, rfl⟩
  have hsz : W2.heap.size = w.heap.size + 2 := by rw [hW2]; simp
  have hbw : Below w.heap.size w W2 := by rw [hW2]; exact ((Below.refl w.heap.size w).alloc (Nat.le_refl _) _).alloc (by simp) _
  have hk0 : W2.heap[w.heap.size]? = some (.cells #[.string a0, .slice A1 l1.length c1, .slice A2 l2.length c2] 25 (0, 0)) := by rw [hW2, Below.heap_alloc _ _ _ (by simp)]; exact heap_alloc_new w _
  have hk1 : W2.heap[w.heap.size + 1]? = some (.cells #[.string ⟨#[]⟩, .slice none 0 0, .slice none 0 0] 25 (0, 0)) := by rw [hW2]; have h := heap_alloc_new (w.alloc (.cells #[.string a0, .slice A1 l1.length c1, .slice A2 l2.length c2] 25)) (.cells #[.string ⟨#[]⟩, .slice none 0 0, .slice none 0 0] 25); rwa [show (w.alloc (.cells #[.string a0, .slice A1 l1.length c1, .slice A2 l2.length c2] 25)).heap.size = w.heap.size + 1 by simp] at h
  have HW2 := Lib.hid hW2
  have HSZ := Lib.hid hsz; have HK0 := Lib.hid hk0; have HK1 := Lib.hid hk1
  clear hW2 hsz hk0 hk1
  go_enter Try.func56, Try.ntmps56
  go_upto_region 1 with fail
  go_cut [] (fun wc => Cloned w0 w wc a0 l1 l2)
  case first =>
    rw [← HW2.out]
    have hc94 := clone62 A1 c1 l1 w0 W2.drew HR1.out (Below.drew (bch hb0 hbw)) hc1 (by omega)
    have f1 : W2.cell? ⟨w.heap.size, 1, none⟩ = some (.slice A1 l1.length c1) := by simp [World.cell?, HK0.out]
    have f2 : W2.cell? ⟨w.heap.size, 2, none⟩ = some (.slice A2 l2.length c2) := by simp [World.cell?, HK0.out]
    have HC94 := Lib.hid hc94; clear hc94
    have z1 : W2.frozen? ⟨w.heap.size, 1, none⟩ = false := by simp [World.frozen?, HK0.out]
    have z2 : W2.frozen? ⟨w.heap.size, 2, none⟩ = false := by simp [World.frozen?, HK0.out]
    have F1 := Lib.hid f1; have F2 := Lib.hid f2; have Z1 := Lib.hid z1; have Z2 := Lib.hid z2; clear z1 z2
    have hlt : w.heap.size < W2.heap.size := by rw [HSZ.out]; omega
    go_region_with (first | (go_at_call 94; refine HC94.out.mono ?_; rintro e w1 ⟨Ax1, cx1, rfl, hv1, hb1⟩; have HV1 := Aside0.mk hv1; have hb1' := Aside0.mk hb1; clear hv1; have g2 := (hb1.cell (p := ⟨w.heap.size, 2, none⟩) (show w.heap.size < W2.heap.size by rw [HSZ.out]; omega)).trans (show W2.drew.cell? ⟨w.heap.size, 2, none⟩ = _ from f2); clear hb1) | (go_at_call 95; refine (clone39 A2 c2 l2 w0 _ HR2.out (bch (Below.drew (bch hb0 hbw)) hb1'.out) hc2 (by omega)).mono ?_; rintro e w2 ⟨Ax2, cx2, rfl, hv2, hb2⟩; have HV2 := Aside0.mk hv2; have HB2 := Aside0.mk hb2; have hlt2 : w.heap.size < w1.heap.size := Nat.lt_of_lt_of_le hlt hb1'.out.size; have q1 := (hb2.cell (p := ⟨w.heap.size, 1, none⟩) hlt2).trans ((hb1'.out.cell (p := ⟨w.heap.size, 1, none⟩) hlt).trans (show W2.drew.cell? _ = _ from F1.out)); have q2 := (hb2.cell (p := ⟨w.heap.size, 2, none⟩) hlt2).trans ((hb1'.out.cell (p := ⟨w.heap.size, 2, none⟩) hlt).trans (show W2.drew.cell? _ = _ from F2.out)); have r1 := (hb2.frozen (p := ⟨w.heap.size, 1, none⟩) hlt2).trans ((hb1'.out.frozen (p := ⟨w.heap.size, 1, none⟩) hlt).trans (show W2.drew.frozen? _ = _ from Z1.out)); have r2 := (hb2.frozen (p := ⟨w.heap.size, 2, none⟩) hlt2).trans ((hb1'.out.frozen (p := ⟨w.heap.size, 2, none⟩) hlt).trans (show W2.drew.frozen? _ = _ from Z2.out)); clear hv2 hb2))
    all_goals (go_wp2_with fail; go_meet; exact cloned_mk hbw HSZ.out HK0.out HK1.out hb1'.out HV1.out HB2.out HV2.out)
  case rest =>
    clear HK0 HK1 HSZ HW2 hbw
    obtain ⟨v1, v2, hK0, hK1, hbw, hv1, hv2⟩ := hcut
    obtain ⟨Av1, cv1, rfl⟩ := Kd.R_slice hv1
    obtain ⟨Av2, cv2, rfl⟩ := Kd.R_slice hv2
    have HK0 := Aside0.mk hK0
    have HK1 := Aside0.mk hK1
    have HBW := Aside0.mk hbw
    have HV1 := Aside0.mk hv1
    have HV2 := Aside0.mk (d2_of_fixed hv2)
    have f2 : wc.cell? ⟨w.heap.size, 2, none⟩ = some (.slice Av2 l2.length cv2) := by simp [World.cell?, hK0]
    clear hK0 hK1 hbw hv1 hv2
    go_wp2
    clear f2
    go_loopg [3, 15] l2.length (fun gg _ s15 wr => ∃ i : Nat, i ≤ l2.length ∧ l2.length - i ≤ gg ∧ s15 = .int .i64 i ∧ Aside0 (wr.heap[w.heap.size]? = some (.cells #[.string a0, .slice Av1 l1.length cv1, .slice Av2 l2.length cv2] 25 (0, 0))) ∧ Aside0 (wr.heap[w.heap.size + 1]? = some (.cells #[.string ⟨#[]⟩, .slice none 0 0, .slice none 0 0] 25 (0, 0))) ∧ Aside0 (Below w.heap.size w wr) ∧ Aside0 ((Kd.fixed k62 w0).R 62 wr (w.heap.size + 2) (fun k => w.heap.size + 2 ≤ k) (.slice Av1 l1.length cv1) l1) ∧ Aside0 ((d2 w0).R 39 wr (w.heap.size + 2) (fun k => w.heap.size + 2 ≤ k) (.slice Av2 l2.length cv2) l2))
    case atStart => exact ⟨0, Nat.zero_le _, by omega, rfl, HK0, HK1, HBW, HV1, HV2⟩
    case round =>
      clear HK0 HK1 HBW HV1 HV2
      obtain ⟨i, hi, hg, rfl, HK0, HK1, HBW, HV1, HV2⟩ := hrel
      by_cases hlt : i < l2.length
      · have hltz : (i : Int) < (l2.length : Int) := by omega
        obtain ⟨g, cap, cur, he, hgb, hgh, A', c', hA', hc', hx0, hx1, hx2⟩ := row_elem (bch hb0 HBW.out) HV2.out hlt
        injection he with he1 he2 he3
        subst he1; subst he3
        have hglt := blk_lt hgh
        have HA' := Aside0.mk hA'
        have HGH := Aside0.mk hgh
        have f2 : wr.cell? ⟨w.heap.size, 2, none⟩ = some (.slice (some ⟨g, 0, none⟩) l2.length cv2) := by simp [World.cell?, HK0.out]
        have zx : wr.frozen? ⟨g, i * 3 + 2, none⟩ = false := by simp [World.frozen?, hgh]
        have hBlt : w.heap.size < wr.heap.size := blk_lt HK0.out
        have F2 := Lib.hid f2; have HX2 := Lib.hid hx2; have ZX := Lib.hid zx
        have hml : (rd_T39 l2 i).f2.length ≤ 1000 := HL3.out _ (rd39_mem hlt)
        clear hgh hA' he2
        go_wp2
        go_region_with (go_at_call 66; refine (clone42 A' c' (rd_T39 l2 i).f2 wr _ HA'.out (by first | exact Below.drew (Below.refl _ _) | exact Below.refl _ _) hc' (by omega)).mono ?_; rintro e w1 ⟨Ay, cy, rfl, hvy, hby⟩; have HVY := Aside0.mk hvy; have HBY := Aside0.mk hby; have q2 := (hby.cell (p := ⟨w.heap.size, 2, none⟩) hBlt).trans F2.out; have qx := (hby.cell (p := ⟨g, i * 3 + 2, none⟩) hglt).trans HX2.out; have qz := (hby.frozen (p := ⟨g, i * 3 + 2, none⟩) hglt).trans ZX.out; clear hvy hby)
        all_goals
          go_wp2
          go_roundg (l2.length - (i + 1))
          case measure => omega
          case rel =>
            obtain ⟨p0, p1, p2, p3, p4⟩ := round_mk HK0.out HK1.out HBW.out hb0 HV1.out HV2.out hlt HBY.out HVY.out
            exact ⟨i + 1, by omega, by omega, by go_num, ⟨p0⟩, ⟨p1⟩, ⟨p2⟩, ⟨p3⟩, ⟨p4⟩⟩
      · have hltz : ¬ (i : Int) < (l2.length : Int) := by omega
        have f0 : wr.cell? ⟨w.heap.size, 0, none⟩ = some (.string a0) := by simp [World.cell?, HK0.out]
        have f1 : wr.cell? ⟨w.heap.size, 1, none⟩ = some (.slice Av1 l1.length cv1) := by simp [World.cell?, HK0.out]
        have f2 : wr.cell? ⟨w.heap.size, 2, none⟩ = some (.slice Av2 l2.length cv2) := by simp [World.cell?, HK0.out]
        have h0 : wr.cell? ⟨w.heap.size + 1, 0, none⟩ = some (.string ⟨#[]⟩) := by simp [World.cell?, HK1.out]
        have h1 : wr.cell? ⟨w.heap.size + 1, 1, none⟩ = some (.slice none 0 0) := by simp [World.cell?, HK1.out]
        have h2 : wr.cell? ⟨w.heap.size + 1, 2, none⟩ = some (.slice none 0 0) := by simp [World.cell?, HK1.out]
        have z0 : wr.frozen? ⟨w.heap.size + 1, 0, none⟩ = false := by simp [World.frozen?, HK1.out]
        have z1 : wr.frozen? ⟨w.heap.size + 1, 1, none⟩ = false := by simp [World.frozen?, HK1.out]
        have z2 : wr.frozen? ⟨w.heap.size + 1, 2, none⟩ = false := by simp [World.frozen?, HK1.out]
        have hBlt : w.heap.size < wr.heap.size := blk_lt HK0.out
        have hend : Below w.heap.size w (((wr.setCell ⟨w.heap.size + 1, 0, none⟩ (.string a0)).setCell ⟨w.heap.size + 1, 1, none⟩ (.slice Av1 l1.length cv1)).setCell ⟨w.heap.size + 1, 2, none⟩ (.slice Av2 l2.length cv2)) := ((HBW.out.setCell (by simp) _).setCell (by simp) _).setCell (by simp) _
        have P1 := Aside0.mk (Kd.R_lower (Kd.R_mono (Kd.R_far (Kd.R_far (Kd.R_far (p := ⟨w.heap.size + 1, 0, none⟩) HV1.out (fun k hk => by simp; omega) (.string a0)) (p := ⟨w.heap.size + 1, 1, none⟩) (fun k hk => by simp; omega) (.slice Av1 l1.length cv1)) (p := ⟨w.heap.size + 1, 2, none⟩) (fun k hk => by simp; omega) (.slice Av2 l2.length cv2)) (fun k hk => show w.heap.size ≤ k by omega)) (show w.heap.size ≤ w.heap.size + 2 by omega))
        have P2 := Aside0.mk (Kd.R_lower (Kd.R_mono (Kd.R_far (Kd.R_far (Kd.R_far (p := ⟨w.heap.size + 1, 0, none⟩) HV2.out (fun k hk => by simp; omega) (.string a0)) (p := ⟨w.heap.size + 1, 1, none⟩) (fun k hk => by simp; omega) (.slice Av1 l1.length cv1)) (p := ⟨w.heap.size + 1, 2, none⟩) (fun k hk => by simp; omega) (.slice Av2 l2.length cv2)) (fun k hk => show w.heap.size ≤ k by omega)) (show w.heap.size ≤ w.heap.size + 2 by omega))
        have HE := Aside0.mk hend; clear hend
        have HF := Aside0.mk (blk_put (blk_put (blk_put HK1.out 0 (.string a0) rfl) 1 (.slice Av1 l1.length cv1) rfl) 2 (.slice Av2 l2.length cv2) rfl)
        go_wp2
        refine bodyPost_ret (v := .agg #[.string a0, .slice Av1 l1.length cv1, .slice Av2 l2.length cv2]) (results_cell_row rfl _ _ (w.heap.size + 1) 25 #[.string a0, .slice Av1 l1.length cv1, .slice Av2 l2.length cv2] (0, 0) _ rfl HF.out Try.underlying25 rfl (by kernel_rfl)) rfl ⟨_, _, _, _, rfl, P1.out, P2.out, HE.out⟩

/-- Rows of clone's read. -/
theorem own_reads62 {w W : World} (hb : Below w.heap.size w W) {base : Nat} {ok : Nat → Prop} {A : Option Addr} {c : Nat} {l : List S62} (h : (Kd.fixed k62 w).R 62 W base ok (.slice A l.length c) l) : l.length ≤ c ∧ Kd.C k62 W A l.length l := by
  obtain ⟨A', c', he, hl, hC⟩ := Kd.R_reads h
  injection he with e1 _ e2
  subst e1; subst e2
  exact ⟨hl, ReadsRow.imp_ hC (Below.refl _ _) (fun x cs hx => k62.K_below hb hx)⟩
theorem own_reads39 {w W : World} (hb : Below w.heap.size w W) {base : Nat} {ok : Nat → Prop} {A : Option Addr} {c : Nat} {l : List S39} (h : (d2 w).R 39 W base ok (.slice A l.length c) l) : l.length ≤ c ∧ Kd.C k39 W A l.length l := by
  obtain ⟨A', c', he, hl, hC⟩ := Kd.R_reads h
  injection he with e1 _ e2
  subst e1; subst e2
  exact ⟨hl, ReadsRow.imp_ hC (Below.refl _ _) (fun x cs hx => d2_k39 hb hx)⟩
theorem clone_calls (a0 : ByteArray) (A1 : Option Addr) (c1 : Nat) (l1 : List S62) (A2 : Option Addr) (c2 : Nat) (l2 : List S39) (w : World)
    (hr1 : Kd.C k62 w A1 l1.length l1) (hc1 : l1.length ≤ c1) (hr2 : Kd.C k39 w A2 l2.length l2) (hc2 : l2.length ≤ c2) (hl1 : l1.length ≤ 1000) (hl2 : l2.length ≤ 1000) (hl3 : ∀ m ∈ l2, m.f2.length ≤ 1000) :
    Calls Try.prog 56 #[.agg #[.string a0, .slice A1 l1.length c1, .slice A2 l2.length c2]] w fun e w' => ∃ A1' c1' A2' c2', e = .returned (.agg #[.string a0, .slice A1' l1.length c1', .slice A2' l2.length c2']) ∧ l1.length ≤ c1' ∧ Kd.C k62 w' A1' l1.length l1 ∧ l2.length ≤ c2' ∧ Kd.C k39 w' A2' l2.length l2 ∧ Below w.heap.size w w' :=
  (clone_own a0 A1 c1 l1 A2 c2 l2 w w (Below.refl _ _) hr1 hc1 hr2 hc2 hl1 hl2 hl3).mono fun e w' ⟨A1', c1', A2', c2', he, h1, h2, hb⟩ => by
    obtain ⟨k1, p1⟩ := own_reads62 hb h1
    obtain ⟨k2, p2⟩ := own_reads39 hb h2
    exact ⟨A1', c1', A2', c2', he, k1, p1, k2, p2, hb⟩
end Go.Proofs.Ytkgcfgoaabkcpaa.Pa

