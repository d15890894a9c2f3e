import Derived.Test.YtkgcfgoaabkcpaaB6
import Derived.Test.YtkgcfgoaabkcpaaB7
import Derived.Test.YtkgcfgoaabkcpaaB4
import Derived.Deep.RegionHeld3
import Derived.Test.YtkgcfgoaabkcpaaWWords
import Derived.SizedLaws
import Derived.ChangeSlices
import Derived.ChangeArms
import Derived.Deep.Slices

/-! ## part E11 -/
namespace Go.Proofs.Ytkgcfgoaabkcpaa.Pa
open Go.RowKit Go.Proofs.YtkgcfgoaabkcpaaW.PrintWords Go.Proofs.YtkgcfgoaabkcpaaW.PrintLast Go.Proofs.YtkgcfgoaabkcpaaW.PrintMore
set_option linter.unusedVariables false
set_option linter.unusedSimpArgs false

/-- Sizes that a row owes. -/
def SzP (l1 : List S62) (l2 : List S39) : Prop := l1.length ≤ 10000000000000 ∧ l2.length ≤ 10000000000000 ∧ ∀ m ∈ l2, m.f2.length ≤ 10000000000000
theorem wrap_nat {n : Nat} (h : n ≤ 4611686018427387904) : wrap64 (n : Int) = n := by unfold wrap64; omega
theorem small_l0 (a0 : ByteArray) (l1 : List S62) (l2 : List S39) (hz : SzP l1 l2) : ∀ (d i s : Nat), i + d = l2.length → s ≤ 100000000000000 →
    ∃ b, Ev (fun k => ballcockref09_Small.l0 k (s : Int) (i : Int) a0 l1 l2) b ∧ (b = true → s ≤ 80 ∧ ∀ m ∈ l2.drop i, m.f2.length ≤ 80) := by
  intro d
  induction d with
  | zero =>
    intro i s hi hs
    refine ⟨decide ((s : Int) ≤ 80), Ev.step (fun k => ballcockref09_Small.l0.eq_2 _ _ _ _ _ k) (Ev.neg (by omega) (Ev.now _)), fun hb => ?_⟩
    have := of_decide_eq_true hb
    refine ⟨by omega, fun m hm => ?_⟩
    rw [List.drop_of_length_le (by omega)] at hm; cases hm
  | succ d ih =>
    intro i s hi hs
    have hil : i < l2.length := by omega
    by_cases h80 : (s : Int) ≤ 80
    · have hm := hz.2.2 _ (rd39_mem hil)
      obtain ⟨b, h1, h2⟩ := ih (i + 1) (s + (rd_T39 l2 i).f2.length) (by omega) (by omega)
      refine ⟨b, Ev.step (fun k => ballcockref09_Small.l0.eq_2 _ _ _ _ _ k) (Ev.pos (by omega) (Ev.pos h80 (Ev.pos (by omega) ?_))), fun hb => ?_⟩
      · rw [wrap_succ (by have := hz.2.1; omega)]
        have : wrap64 ((s : Int) + ((rd_T39 l2 i).f2.length : Int)) = ((s + (rd_T39 l2 i).f2.length : Nat) : Int) := by
          rw [show ((s : Int) + ((rd_T39 l2 i).f2.length : Int)) = ((s + (rd_T39 l2 i).f2.length : Nat) : Int) by omega]
          exact wrap_nat (by omega)
        rw [this]; exact h1
      · obtain ⟨h3, h4⟩ := h2 hb
        refine ⟨by omega, fun m hm => ?_⟩
        rw [drop39 hil] at hm
        rcases List.mem_cons.1 hm with rfl | hm
        · omega
        · exact h4 m hm
    · exact ⟨decide ((s : Int) ≤ 80), Ev.step (fun k => ballcockref09_Small.l0.eq_2 _ _ _ _ _ k) (Ev.pos (by omega) (Ev.neg h80 (Ev.now _))), fun hb => absurd (of_decide_eq_true hb) h80⟩
theorem small_f (a0 : ByteArray) (l1 : List S62) (l2 : List S39) (hz : SzP l1 l2) : ∃ b k, ballcockref09_Small.f k a0 l1 l2 = some b ∧ (b = true → l1.length ≤ 80 ∧ l2.length ≤ 80 ∧ ∀ m ∈ l2, m.f2.length ≤ 80) := by
  obtain ⟨b, h1, h2⟩ := small_l0 a0 l1 l2 hz l2.length 0 (l1.length + l2.length) (by omega) (by have := hz.1; have := hz.2.1; omega)
  obtain ⟨k, hk⟩ := h1.rounds
  refine ⟨b, k, ?_, fun hb => ?_⟩
  · unfold ballcockref09_Small.f
    have : wrap64 ((l1.length : Int) + (l2.length : Int)) = ((l1.length + l2.length : Nat) : Int) := by
      rw [show ((l1.length : Int) + (l2.length : Int)) = ((l1.length + l2.length : Nat) : Int) by omega]
      exact wrap_nat (by have := hz.1; have := hz.2.1; omega)
    rw [this]; exact hk
  · obtain ⟨h3, h4⟩ := h2 hb
    rw [List.drop_zero] at h4
    exact ⟨by omega, by omega, h4⟩

/-! ### Like, of a protocol and itself -/
theorem same_l0 (l : List S42) (hl : l.length ≤ 1000) : ∀ (d i : Nat), i + d = l.length → Ev (fun k => ballcockref09_Same.l0 k l l (i : Int)) true := by
  intro d
  induction d with
  | zero => intro i hi; exact Ev.step (fun k => ballcockref09_Same.l0.eq_2 _ _ _ k) (Ev.neg (by omega) (Ev.now _))
  | succ d ih =>
    intro i hi
    refine Ev.step (fun k => ballcockref09_Same.l0.eq_2 _ _ _ k) (Ev.pos (by omega) (Ev.pos (by omega) (Ev.pos (by omega) (Ev.neg (by simp) ?_))))
    rw [wrap_succ (by omega)]; exact ih (i + 1) (by omega)
theorem same_f (l : List S42) (hl : l.length ≤ 1000) : Ev (fun k => ballcockref09_Same.f k l l) true :=
  Ev.congr (fun k => if_pos rfl) (same_l0 l hl l.length 0 (by omega))
/-! ### Proto, Finals -/
set_option maxHeartbeats 1000000 in
theorem Proto_calls (g : Nat) (a0 : ByteArray) (l1 : List S62) (l2 : List S39) (w : World) (h : AutoAt w g a0 l1 l2) (hf : Fits l1 l2) :
    Calls Try.prog 18 #[.pointer (some ⟨g, 0, none⟩)] w fun e w' => ∃ A1' c1' A2' c2', e = .returned (.agg #[.string a0, .slice A1' l1.length c1', .slice A2' l2.length c2']) ∧ l1.length ≤ c1' ∧ Kd.C k62 w' A1' l1.length l1 ∧ l2.length ≤ c2' ∧ Kd.C k39 w' A2' l2.length l2 ∧ Below w.heap.size w w' := by
  obtain ⟨A1, c1, A2, c2, hh, k1, p1, k2, p2⟩ := h
  have hg := blk_lt hh
  have hb := (Below.refl w.heap.size w).alloc (Nat.le_refl _) (.cells #[.string ⟨#[]⟩, .slice none 0 0, .slice none 0 0] 25)
  have hh' := (hb.block g hg).trans hh
  have f0 : (w.alloc (.cells #[.string ⟨#[]⟩, .slice none 0 0, .slice none 0 0] 25)).cell? ⟨g, 0, none⟩ = some (.string a0) := by simp [World.cell?, hh']
  have f1 : (w.alloc (.cells #[.string ⟨#[]⟩, .slice none 0 0, .slice none 0 0] 25)).cell? ⟨g, 1, none⟩ = some (.slice A1 l1.length c1) := by simp [World.cell?, hh']
  have f2 : (w.alloc (.cells #[.string ⟨#[]⟩, .slice none 0 0, .slice none 0 0] 25)).cell? ⟨g, 2, none⟩ = some (.slice A2 l2.length c2) := by simp [World.cell?, hh']
  have HC := Lib.hid (clone_own a0 A1 c1 l1 A2 c2 l2 w _ hb p1 k1 p2 k2 hf.1 hf.2.1 hf.2.2)
  clear hh hh' p1 p2 hf
  go_enter Try.func18, Try.ntmps18
  go_wp2_with fail
  refine HC.out.mono ?_
  rintro e w1 ⟨A1', c1', A2', c2', rfl, p1', p2', hb1⟩
  have K1 := Aside0.mk p1'; have K2 := Aside0.mk p2'
  have hbk := (hb1.block w.heap.size (by simp)).trans (heap_alloc_new w _)
  have hlt : w.heap.size < w1.heap.size := blk_lt hbk
  have q0 : w1.cell? ⟨w.heap.size, 0, none⟩ = some (.string ⟨#[]⟩) := by simp [World.cell?, hbk]
  have q1 : w1.cell? ⟨w.heap.size, 1, none⟩ = some (.slice none 0 0) := by simp [World.cell?, hbk]
  have q2 : w1.cell? ⟨w.heap.size, 2, none⟩ = some (.slice none 0 0) := by simp [World.cell?, hbk]
  have z0 : w1.frozen? ⟨w.heap.size, 0, none⟩ = false := by simp [World.frozen?, hbk]
  have z1 : w1.frozen? ⟨w.heap.size, 1, none⟩ = false := by simp [World.frozen?, hbk]
  have z2 : w1.frozen? ⟨w.heap.size, 2, none⟩ = false := by simp [World.frozen?, hbk]
  have HF := Aside0.mk (blk_put (blk_put (blk_put hbk 0 (.string a0) rfl) 1 (.slice A1' l1.length c1') rfl) 2 (.slice A2' l2.length c2') rfl)
  have HE := Aside0.mk (((((bch hb hb1).setCell (p := ⟨w.heap.size, 0, none⟩) (Nat.le_refl _) (.string a0)).setCell (p := ⟨w.heap.size, 1, none⟩) (Nat.le_refl _) (.slice A1' l1.length c1')).setCell (p := ⟨w.heap.size, 2, none⟩) (Nat.le_refl _) (.slice A2' l2.length c2')))
  have HQ : Aside0 (Below (w.alloc (.cells #[.string ⟨#[]⟩, .slice none 0 0, .slice none 0 0] 25)).heap.size (w.alloc (.cells #[.string ⟨#[]⟩, .slice none 0 0, .slice none 0 0] 25)) w1) := ⟨hb1⟩
  clear hbk hb1
  go_wp2
  have hsz : (w.alloc (.cells #[.string ⟨#[]⟩, .slice none 0 0, .slice none 0 0] 25)).heap.size = w.heap.size + 1 := by simp
  obtain ⟨r1, s1⟩ := own_reads62 HE.out (Kd.R_far (Kd.R_far (Kd.R_far (p := ⟨w.heap.size, 0, none⟩) K1.out (fun k hk => by rw [hsz] at hk; simp; omega) (.string a0)) (p := ⟨w.heap.size, 1, none⟩) (fun k hk => by rw [hsz] at hk; simp; omega) (.slice A1' l1.length c1')) (p := ⟨w.heap.size, 2, none⟩) (fun k hk => by rw [hsz] at hk; simp; omega) (.slice A2' l2.length c2'))
  obtain ⟨r2, s2⟩ := own_reads39 HE.out (Kd.R_far (Kd.R_far (Kd.R_far (p := ⟨w.heap.size, 0, none⟩) K2.out (fun k hk => by rw [hsz] at hk; simp; omega) (.string a0)) (p := ⟨w.heap.size, 1, none⟩) (fun k hk => by rw [hsz] at hk; simp; omega) (.slice A1' l1.length c1')) (p := ⟨w.heap.size, 2, none⟩) (fun k hk => by rw [hsz] at hk; simp; omega) (.slice A2' l2.length c2'))
  exact bodyPost_ret (v := .agg #[.string a0, .slice A1' l1.length c1', .slice A2' l2.length c2']) (results_cell_row rfl _ _ w.heap.size 25 #[.string a0, .slice A1' l1.length c1', .slice A2' l2.length c2'] (0, 0) _ rfl HF.out Try.underlying25 rfl (by kernel_rfl)) rfl ⟨_, _, _, _, rfl, r1, s1, r2, s2, HE.out⟩

set_option maxHeartbeats 1000000 in
theorem Finals_calls (g : Nat) (a0 : ByteArray) (l1 : List S62) (l2 : List S39) (w : World) (h : AutoAt w g a0 l1 l2) (hn : l1.length ≤ 16) :
    Calls Try.prog 21 #[.pointer (some ⟨g, 0, none⟩)] w fun e w' => e = .returned (.int .u32 (finS l1 l1.length : Nat)) ∧ Below w.heap.size w w' := by
  obtain ⟨A1, c1, A2, c2, hh, k1, p1, k2, p2⟩ := h
  have f0 : w.cell? ⟨g, 0, none⟩ = some (.string a0) := by simp [World.cell?, hh]
  have f1 : w.cell? ⟨g, 1, none⟩ = some (.slice A1 l1.length c1) := by simp [World.cell?, hh]
  have f2 : w.cell? ⟨g, 2, none⟩ = some (.slice A2 l2.length c2) := by simp [World.cell?, hh]
  obtain ⟨k, hk⟩ := (finals_l0 l1 hn l1.length 0 (by omega)).rounds
  have HC := Lib.hid (auto_finals.calls k a0 A1 c1 l1 A2 c2 l2 _ w p1 k1 p2 k2 hk)
  clear hh p1 p2 hk
  go_enter Try.func21, Try.ntmps21
  go_wp2_with fail
  refine HC.out.mono ?_
  rintro e w1 ⟨rfl, hb1⟩
  go_wp2
  go_ret
  exact ⟨rfl, hb1⟩
end Go.Proofs.Ytkgcfgoaabkcpaa.Pa


/-! ## part E12 -/
namespace Go.Proofs.Ytkgcfgoaabkcpaa.Pa
open Go.RowKit Go.Proofs.YtkgcfgoaabkcpaaW.PrintWords Go.Proofs.YtkgcfgoaabkcpaaW.PrintLast Go.Proofs.YtkgcfgoaabkcpaaW.PrintMore
set_option linter.unusedVariables false
set_option linter.unusedSimpArgs false

theorem wrong_stuck : wrongF [⟨⟨#[65]⟩, false⟩] [] = (5, 0) := by decide
theorem wrong_right : wrongF [⟨⟨#[65]⟩, true⟩] [] = (0, 0) := by decide
theorem fins_one : finS [⟨⟨#[65]⟩, true⟩] 1 = 1 := by decide
theorem C_one62 (W : World) (x : S62) : Kd.C k62 (W.alloc (.cells #[.string x.f0, .bool x.f1] 62)) (some ⟨W.heap.size, 0, none⟩) 1 [x] := by
  refine ⟨rfl, by decide, fun _ => ⟨_, rfl, fun j p hj => ?_⟩⟩
  cases j with
  | zero =>
    cases hj
    refine ⟨_, rfl, k62_mk _ _, fun i u hu => ?_⟩
    match i, hu with
    | 0, hu => cases hu; exact World.cell?_alloc_at _ _ _ _ rfl
    | 1, hu => cases hu; exact World.cell?_alloc_at _ _ _ _ rfl
  | succ j => simp at hj

set_option maxHeartbeats 2000000 in
theorem awake_calls (w : World) : Calls Try.prog 12 #[] w fun e w' => e = .returned (.bool true) ∧ Below w.heap.size w w' := by
  obtain ⟨ka, hka⟩ := wrong_f ⟨#[]⟩ [⟨⟨#[65]⟩, false⟩] [] ⟨by decide, by decide, fun m hm => by cases hm⟩
  obtain ⟨kb, hkb⟩ := wrong_f ⟨#[]⟩ [⟨⟨#[65]⟩, true⟩] [] ⟨by decide, by decide, fun m hm => by cases hm⟩
  rw [wrong_stuck] at hka
  rw [wrong_right] at hkb
  have HKA := Lib.hid hka; have HKB := Lib.hid hkb
  clear hka hkb
  go_enter Try.func12, Try.ntmps12
  go_wp2_with fail
  refine (auto_Wrong.calls ka ⟨#[]⟩ (some ⟨w.heap.size, 0, none⟩) 1 [⟨⟨#[65]⟩, false⟩] none 0 [] 5 0 _ (C_one62 w ⟨⟨#[65]⟩, false⟩) (Nat.le_refl _) (Kd.C_nil _ _) (Nat.le_refl _) HKA.out).mono ?_
  rintro e w1 ⟨rfl, hb1⟩
  have HB1 := Aside0.mk (((Below.refl w.heap.size w).alloc (Nat.le_refl _) (.cells #[.string ⟨#[65]⟩, .bool false] 62)).trans (hb1.mono (by simp)))
  clear hb1
  go_wp2_with fail
  refine (New_yes kb ⟨#[]⟩ (some ⟨w1.heap.size, 0, none⟩) 1 [⟨⟨#[65]⟩, true⟩] none 0 [] 0 _ (C_one62 w1 ⟨⟨#[65]⟩, true⟩) (Nat.le_refl _) (Kd.C_nil _ _) (Nat.le_refl _) HKB.out ⟨by decide, by decide, fun m hm => by cases hm⟩).mono ?_
  rintro e w2 ⟨g, rfl, hat, hg, hb2⟩
  have HB2 := Aside0.mk (HB1.out.trans ((((Below.refl w1.heap.size w1).alloc (Nat.le_refl _) (.cells #[.string ⟨#[65]⟩, .bool true] 62)).trans (hb2.mono (by simp))).mono HB1.out.size))
  have HAT := Aside0.mk hat
  clear hat hg hb2
  go_wp2_with fail
  refine (Finals_calls g ⟨#[]⟩ [⟨⟨#[65]⟩, true⟩] [] w2 HAT.out (by decide)).mono ?_
  rintro e w3 ⟨rfl, hb3⟩
  rw [show finS [⟨⟨#[65]⟩, true⟩] [(⟨⟨#[65]⟩, true⟩ : S62)].length = 1 from fins_one]
  go_wp2
  go_ret
  exact ⟨rfl, bch HB2.out hb3⟩
end Go.Proofs.Ytkgcfgoaabkcpaa.Pa


/-! ## part E13 -/
namespace Go.Proofs.Ytkgcfgoaabkcpaa.Pa
open Go.RowKit Go.Proofs.YtkgcfgoaabkcpaaW.PrintWords Go.Proofs.YtkgcfgoaabkcpaaW.PrintLast Go.Proofs.YtkgcfgoaabkcpaaW.PrintMore
set_option linter.unusedVariables false
set_option linter.unusedSimpArgs false

theorem keep3 {w w5 : World} {x0 x1 x2 : Value} {B : Nat} (hb : Below w.drew.heap.size w.drew w5) (hB : B < w.heap.size)
    (h0 : w.cell? ⟨B, 0, none⟩ = some x0) (h1 : w.cell? ⟨B, 1, none⟩ = some x1) (h2 : w.cell? ⟨B, 2, none⟩ = some x2) :
    w5.cell? ⟨B, 0, none⟩ = some x0 ∧ w5.cell? ⟨B, 1, none⟩ = some x1 ∧ w5.cell? ⟨B, 2, none⟩ = some x2 :=
  ⟨(hb.cell (p := ⟨B, 0, none⟩) hB).trans h0, (hb.cell (p := ⟨B, 1, none⟩) hB).trans h1, (hb.cell (p := ⟨B, 2, none⟩) hB).trans h2⟩

end Go.Proofs.Ytkgcfgoaabkcpaa.Pa


/-! ## part O -/
namespace Go.Proofs.Ytkgcfgoaabkcpaa.Pa
open Go.RowKit Go.Proofs.YtkgcfgoaabkcpaaW.PrintWords
set_option linter.unusedVariables false
set_option linter.unusedSimpArgs false

/-- How data of a type read as a kind; Q: what is known of what was read. -/
structure Opens (P : Program) (t : TypeId) {α : Type} (d : Kd α) (Q : α → Prop) : Prop where
  size : P.cellsOf t = d.sz
  read : ∀ {H : Type} {enc : TypeId × Value → H} {W : World} {base : Nat} {spare : Nat → Bool} {held : Bool} {fuel : Nat} {cs : List Value} {D : DataW H} {ps : List MemPlace},
    DataW.trod enc P W base spare held fuel t cs = some (D, ps) → (∀ n ∈ DataW.weights P t D, n ≤ reachBytes) → ∃ a, d.K W a cs ∧ Q a

theorem opens_int {P : Program} {t : TypeId} {k : IntKind} (ht : P.underlying t = some (.int k)) (hc : P.cellsOf t = 1) : Opens P t (Kd.int k) (fun x => (Lit.int k x).wf = true) where
  size := hc
  read := by
    intro H enc W base spare held fuel cs D ps h _
    obtain ⟨n, rfl, _, hw⟩ := DataW.trod_int ht h
    exact ⟨n, rfl, hw⟩
theorem opens_bool {P : Program} {t : TypeId} (ht : P.underlying t = some .bool) (hc : P.cellsOf t = 1) : Opens P t Kd.bool (fun _ => True) where
  size := hc
  read := by
    intro H enc W base spare held fuel cs D ps h _
    obtain ⟨n, rfl, _⟩ := DataW.trod_bool ht h
    exact ⟨n, rfl, trivial⟩
theorem opens_string {P : Program} {t : TypeId} (ht : P.underlying t = some .string) (hc : P.cellsOf t = 1) : Opens P t Kd.string (fun s => s.size ≤ reachBytes) where
  size := hc
  read := by
    intro H enc W base spare held fuel cs D ps h hw
    obtain ⟨s, rfl, hx, _⟩ := DataW.trod_string ht h
    obtain ⟨rfl, _⟩ := Prod.mk.inj hx
    refine ⟨s, rfl, ?_⟩
    have := hw s.data.toList.length (by rw [DataW.weights]; exact List.mem_singleton.2 rfl)
    show s.data.size ≤ _
    rw [← Array.length_toList]; exact this
theorem opens_iso {P : Program} {t : TypeId} {α β : Type} {d : Kd α} {Q : α → Prop} (h : Opens P t d Q) (f : β → α) (g : α → β) (hfg : ∀ a, f (g a) = a) : Opens P t (Kd.iso d f) (fun x => Q (f x)) where
  size := h.size
  read := by
    intro H enc W base spare held fuel cs D ps hr hw
    obtain ⟨a, hk, hq⟩ := h.read hr hw
    exact ⟨g a, by show d.K W (f (g a)) cs; rw [hfg]; exact hk, by rw [hfg]; exact hq⟩

theorem mem_weightsAll {H : Type} {P : Program} {e : TypeId} {ds : List (DataW H)} {d : DataW H} (h : d ∈ ds) {n : Nat} (hn : n ∈ d.weights P e) : n ∈ DataW.weightsAll P e ds := by
  induction ds with
  | nil => cases h
  | cons x xs ih =>
    rw [DataW.weightsAll]
    rcases List.mem_cons.1 h with rfl | h
    · exact List.mem_append_left _ hn
    · exact List.mem_append_right _ (ih h)
theorem mapM_idx {α β : Type} {f : α → Option β} : ∀ {l : List α} {r : List β}, l.mapM f = some r → r.length = l.length ∧ ∀ (i : Nat) (x : α), l[i]? = some x → f x = r[i]?
  | [], r, h => by
    rw [List.mapM_nil] at h
    cases h
    exact ⟨rfl, fun i x hx => by simp at hx⟩
  | a :: l, r, h => by
    rw [List.mapM_cons] at h
    obtain ⟨y, hy, h⟩ := Option.bind_eq_some_iff.1 h
    obtain ⟨ys, hys, h⟩ := Option.bind_eq_some_iff.1 h
    cases h
    obtain ⟨hl, hi⟩ := mapM_idx hys
    refine ⟨by simp [hl], fun i x hx => ?_⟩
    cases i with
    | zero => simp at hx; subst hx; exact hy
    | succ i => simpa using hi i x (by simpa using hx)
theorem cells_get {w : World} {base : Nat} {a : Addr} {n : Nat} {cs : List Value} (h : w.cells? base a n = some cs) : cs.length = n ∧ ∀ (i : Nat) (u : Value), cs[i]? = some u → w.cell? (a.add i) = some u := by
  unfold World.cells? at h
  split at h
  · obtain ⟨hl, hi⟩ := mapM_idx h
    rw [List.length_range] at hl
    refine ⟨hl, fun i u hu => ?_⟩
    have hin : i < n := by
      by_cases hin : i < cs.length
      · omega
      · rw [List.getElem?_eq_none (by omega)] at hu; cases hu
    rw [hi i i (by rw [List.getElem?_range hin]), hu]
  · cases h
theorem choose_list {α β : Type} {R : α → β → Prop} : ∀ {l : List α}, (∀ x ∈ l, ∃ y, R x y) → ∃ r : List β, r.length = l.length ∧ ∀ (i : Nat) (x : α) (y : β), l[i]? = some x → r[i]? = some y → R x y
  | [], _ => ⟨[], rfl, fun i x y hx => by simp at hx⟩
  | a :: l, h => by
    obtain ⟨y, hy⟩ := h a List.mem_cons_self
    obtain ⟨r, hl, hr⟩ := choose_list (l := l) (fun x hx => h x (List.mem_cons_of_mem _ hx))
    refine ⟨y :: r, by simp [hl], fun i x z hx hz => ?_⟩
    cases i with
    | zero => simp at hx hz; subst hx; subst hz; exact hy
    | succ i => exact hr i x z (by simpa using hx) (by simpa using hz)
theorem opens_slice {P : Program} {t e : TypeId} {α : Type} {d : Kd α} {Q : α → Prop} (ht : P.underlying t = some (.slice e)) (hc : P.cellsOf t = 1) (h : Opens P e d Q) :
    Opens P t (Kd.slice e d) (fun l => l.length * P.bytesOf e ≤ reachBytes ∧ ∀ a ∈ l, Q a) where
  size := hc
  read := by
    intro H enc W base spare held fuel cs D ps hr hw
    rcases DataW.trod_slice ht hr with ⟨rfl, hx⟩ | ⟨a, len, cap, elems, rest, n, _, rfl, hx, hb, hl, hm, hlen, hel, _⟩
    · exact ⟨[], ⟨none, 0, rfl, Nat.le_refl _, Kd.C_nil d W⟩, by simp, fun a ha => by cases ha⟩
    · obtain ⟨rfl, _⟩ := Prod.mk.inj hx
      have hwt : ∀ q : DataW H, q ∈ elems.map (·.1) → ∀ n ∈ q.weights P e, n ≤ reachBytes := fun q hq n hn => hw n (by
        rw [DataW.weights, ht]
        exact List.mem_cons_of_mem _ (List.mem_append_left _ (mem_weightsAll hq hn)))
      obtain ⟨r, hrl, hrr⟩ := choose_list (l := List.range len) (R := fun (i : Nat) (y : α) => ∃ cs', W.cells? base (a.add (i * P.cellsOf e)) (P.cellsOf e) = some cs' ∧ d.K W y cs' ∧ Q y) (fun i hi => by
        rw [List.mem_range] at hi
        have h1 := hel i hi
        rw [List.getElem?_eq_getElem (by omega)] at h1
        obtain ⟨cs', hcs, htr⟩ := Option.bind_eq_some_iff.1 h1
        obtain ⟨y, hy, hq⟩ := h.read (D := (elems[i]'(by omega)).1) (ps := (elems[i]'(by omega)).2) htr (hwt _ (List.mem_map_of_mem (List.getElem_mem (by omega))))
        exact ⟨y, cs', hcs, hy, hq⟩)
      rw [List.length_range] at hrl
      have hget : ∀ j y, r[j]? = some y → ∃ cs', W.cells? base (a.add (j * P.cellsOf e)) (P.cellsOf e) = some cs' ∧ d.K W y cs' ∧ Q y := fun j y hj => by
        have hjl : j < len := by
          by_cases hjl : j < r.length
          · omega
          · rw [List.getElem?_eq_none (by omega)] at hj; cases hj
        exact hrr j j y (by rw [List.getElem?_range hjl]) hj
      refine ⟨r, ⟨some a, cap, by rw [hrl], by omega, rfl, by unfold maxLen at hm; omega, fun _ => ⟨a, rfl, fun j y hj => ?_⟩⟩, ?_, fun y hy => ?_⟩
      · obtain ⟨cs', h1, h2, _⟩ := hget j y hj
        obtain ⟨h3, h4⟩ := cells_get h1
        rw [h.size] at h3 h4
        refine ⟨cs', h3, h2, fun i u hu => ?_⟩
        have := h4 i u hu
        rw [add_add] at this
        exact this
      · have := hw ((elems.map (·.1)).length * P.bytesOf e + (rest.map (·.1)).length * P.bytesOf e) (by
          rw [DataW.weights, ht]
          exact List.mem_cons.2 (.inl (by rw [Nat.add_mul])))
        rw [List.length_map, hlen] at this
        rw [hrl]; omega
      · obtain ⟨j, hj, rfl⟩ := List.getElem_of_mem hy
        obtain ⟨_, _, _, hq⟩ := hget j _ (List.getElem?_eq_getElem hj)
        exact hq
theorem weights_agg {H : Type} {P : Program} {t : TypeId} {fs : Array Field} (ht : P.underlying t = some (.struct fs)) {parts : List (DataW H)} {i : Nat} {f : Field} {x : DataW H} (hf : fs[i]? = some f) (hx : parts[i]? = some x) {n : Nat} (hn : n ∈ x.weights P f.type) : n ∈ DataW.weights P t (.agg parts) := by
  rw [DataW.weights, ht]
  exact DataW.weights_mem_each (j := i) (t := f.type) (by rw [List.getElem?_map, Array.getElem?_toList, hf]; rfl) hx n hn
/-- A field of what was read. -/
theorem field_of {H : Type} {enc : TypeId × Value → H} {P : Program} {W : World} {base : Nat} {spare : Nat → Bool} {held : Bool} {n : Nat} {t : TypeId} {fs : Array Field} (ht : P.underlying t = some (.struct fs)) {cs : List Value} {xs : List (DataW H × List MemPlace)} (hlen : xs.length = fs.size)
    (hf : ∀ (i : Nat) (f : Field), fs[i]? = some f → DataW.trod enc P W base spare held n f.type ((cs.drop f.offset).take (P.cellsOf f.type)) = xs[i]?) (hw : ∀ n ∈ DataW.weights P t (.agg (xs.map (·.1))), n ≤ reachBytes)
    {α : Type} {d : Kd α} {Q : α → Prop} {i : Nat} {f : Field} (hi : fs[i]? = some f) (h : Opens P f.type d Q) {off : Nat} (ho : f.offset = off) : ∃ a, d.K W a ((cs.drop off).take d.sz) ∧ Q a := by
  have hil : i < xs.length := by
    rw [hlen]
    by_cases hil : i < fs.size
    · exact hil
    · rw [Array.getElem?_eq_none (by omega)] at hi; cases hi
  have h1 := hf i f hi
  rw [List.getElem?_eq_getElem hil, ho, h.size] at h1
  exact h.read (D := xs[i].1) (ps := xs[i].2) h1 (fun n hn => hw n (weights_agg ht hi (by rw [List.getElem?_map, List.getElem?_eq_getElem hil]; rfl) hn))

theorem opens_struct2 {P : Program} {t : TypeId} {f0 f1 : Field} {α0 : Type} {d0 : Kd α0} {Q0 : α0 → Prop} {α1 : Type} {d1 : Kd α1} {Q1 : α1 → Prop} (ht : P.underlying t = some (.struct #[f0, f1])) (o0 : f0.offset = 0) (o1 : f1.offset = d0.sz) (hs : P.cellsOf t = d0.sz + d1.sz)
    (h0 : Opens P f0.type d0 Q0) (h1 : Opens P f1.type d1 Q1) : Opens P t (Kd.pair d0 d1) (fun x : α0 × α1 => Q0 (x.1) ∧ Q1 (x.2)) where
  size := by rw [hs]; show _ = (d0.sz + d1.sz); omega
  read := by
    intro H enc W base spare held fuel cs D ps hr hw
    obtain ⟨xs, n, _, hx, hl, hlen, hf⟩ := DataW.trod_struct ht hr
    obtain ⟨rfl, _⟩ := Prod.mk.inj hx
    obtain ⟨a0, k0, q0⟩ := field_of ht hlen hf hw (i := 0) rfl h0 o0
    obtain ⟨a1, k1, q1⟩ := field_of ht hlen hf hw (i := 1) rfl h1 o1
    rw [hs] at hl
    have hcs : cs = ((cs.drop (0)).take d0.sz ++ ((cs.drop (d0.sz)).take d1.sz)) := by
      have e1 : (cs.drop (d0.sz)).take d1.sz = cs.drop (d0.sz) := List.take_of_length_le (by rw [List.length_drop]; omega)
      rw [e1]
      have e0 : (cs.drop (0)).take d0.sz ++ cs.drop (d0.sz) = cs.drop (0) := by
        have := List.take_append_drop d0.sz (cs.drop (0))
        rw [List.drop_drop] at this
        rw [Nat.zero_add] at this; exact this
      rw [e0]
      rfl
    rw [hcs]
    exact ⟨(a0, a1), ⟨_, _, rfl, k0, k1⟩, q0, q1⟩
theorem opens_struct3 {P : Program} {t : TypeId} {f0 f1 f2 : Field} {α0 : Type} {d0 : Kd α0} {Q0 : α0 → Prop} {α1 : Type} {d1 : Kd α1} {Q1 : α1 → Prop} {α2 : Type} {d2 : Kd α2} {Q2 : α2 → Prop} (ht : P.underlying t = some (.struct #[f0, f1, f2])) (o0 : f0.offset = 0) (o1 : f1.offset = d0.sz) (o2 : f2.offset = d0.sz + d1.sz) (hs : P.cellsOf t = d0.sz + d1.sz + d2.sz)
    (h0 : Opens P f0.type d0 Q0) (h1 : Opens P f1.type d1 Q1) (h2 : Opens P f2.type d2 Q2) : Opens P t (Kd.pair d0 (Kd.pair d1 d2)) (fun x : α0 × α1 × α2 => Q0 (x.1) ∧ Q1 (x.2.1) ∧ Q2 (x.2.2)) where
  size := by rw [hs]; show _ = (d0.sz + (d1.sz + d2.sz)); omega
  read := by
    intro H enc W base spare held fuel cs D ps hr hw
    obtain ⟨xs, n, _, hx, hl, hlen, hf⟩ := DataW.trod_struct ht hr
    obtain ⟨rfl, _⟩ := Prod.mk.inj hx
    obtain ⟨a0, k0, q0⟩ := field_of ht hlen hf hw (i := 0) rfl h0 o0
    obtain ⟨a1, k1, q1⟩ := field_of ht hlen hf hw (i := 1) rfl h1 o1
    obtain ⟨a2, k2, q2⟩ := field_of ht hlen hf hw (i := 2) rfl h2 o2
    rw [hs] at hl
    have hcs : cs = ((cs.drop (0)).take d0.sz ++ ((cs.drop (d0.sz)).take d1.sz ++ ((cs.drop (d0.sz + d1.sz)).take d2.sz))) := by
      have e2 : (cs.drop (d0.sz + d1.sz)).take d2.sz = cs.drop (d0.sz + d1.sz) := List.take_of_length_le (by rw [List.length_drop]; omega)
      rw [e2]
      have e1 : (cs.drop (d0.sz)).take d1.sz ++ cs.drop (d0.sz + d1.sz) = cs.drop (d0.sz) := by
        have := List.take_append_drop d1.sz (cs.drop (d0.sz))
        rw [List.drop_drop] at this
        exact this
      rw [e1]
      have e0 : (cs.drop (0)).take d0.sz ++ cs.drop (d0.sz) = cs.drop (0) := by
        have := List.take_append_drop d0.sz (cs.drop (0))
        rw [List.drop_drop] at this
        rw [Nat.zero_add] at this; exact this
      rw [e0]
      rfl
    rw [hcs]
    exact ⟨(a0, (a1, a2)), ⟨_, _, rfl, k0, ⟨_, _, rfl, k1, k2⟩⟩, q0, q1, q2⟩
theorem opens_struct4 {P : Program} {t : TypeId} {f0 f1 f2 f3 : Field} {α0 : Type} {d0 : Kd α0} {Q0 : α0 → Prop} {α1 : Type} {d1 : Kd α1} {Q1 : α1 → Prop} {α2 : Type} {d2 : Kd α2} {Q2 : α2 → Prop} {α3 : Type} {d3 : Kd α3} {Q3 : α3 → Prop} (ht : P.underlying t = some (.struct #[f0, f1, f2, f3])) (o0 : f0.offset = 0) (o1 : f1.offset = d0.sz) (o2 : f2.offset = d0.sz + d1.sz) (o3 : f3.offset = d0.sz + d1.sz + d2.sz) (hs : P.cellsOf t = d0.sz + d1.sz + d2.sz + d3.sz)
    (h0 : Opens P f0.type d0 Q0) (h1 : Opens P f1.type d1 Q1) (h2 : Opens P f2.type d2 Q2) (h3 : Opens P f3.type d3 Q3) : Opens P t (Kd.pair d0 (Kd.pair d1 (Kd.pair d2 d3))) (fun x : α0 × α1 × α2 × α3 => Q0 (x.1) ∧ Q1 (x.2.1) ∧ Q2 (x.2.2.1) ∧ Q3 (x.2.2.2)) where
  size := by rw [hs]; show _ = (d0.sz + (d1.sz + (d2.sz + d3.sz))); omega
  read := by
    intro H enc W base spare held fuel cs D ps hr hw
    obtain ⟨xs, n, _, hx, hl, hlen, hf⟩ := DataW.trod_struct ht hr
    obtain ⟨rfl, _⟩ := Prod.mk.inj hx
    obtain ⟨a0, k0, q0⟩ := field_of ht hlen hf hw (i := 0) rfl h0 o0
    obtain ⟨a1, k1, q1⟩ := field_of ht hlen hf hw (i := 1) rfl h1 o1
    obtain ⟨a2, k2, q2⟩ := field_of ht hlen hf hw (i := 2) rfl h2 o2
    obtain ⟨a3, k3, q3⟩ := field_of ht hlen hf hw (i := 3) rfl h3 o3
    rw [hs] at hl
    have hcs : cs = ((cs.drop (0)).take d0.sz ++ ((cs.drop (d0.sz)).take d1.sz ++ ((cs.drop (d0.sz + d1.sz)).take d2.sz ++ ((cs.drop (d0.sz + d1.sz + d2.sz)).take d3.sz)))) := by
      have e3 : (cs.drop (d0.sz + d1.sz + d2.sz)).take d3.sz = cs.drop (d0.sz + d1.sz + d2.sz) := List.take_of_length_le (by rw [List.length_drop]; omega)
      rw [e3]
      have e2 : (cs.drop (d0.sz + d1.sz)).take d2.sz ++ cs.drop (d0.sz + d1.sz + d2.sz) = cs.drop (d0.sz + d1.sz) := by
        have := List.take_append_drop d2.sz (cs.drop (d0.sz + d1.sz))
        rw [List.drop_drop] at this
        exact this
      rw [e2]
      have e1 : (cs.drop (d0.sz)).take d1.sz ++ cs.drop (d0.sz + d1.sz) = cs.drop (d0.sz) := by
        have := List.take_append_drop d1.sz (cs.drop (d0.sz))
        rw [List.drop_drop] at this
        exact this
      rw [e1]
      have e0 : (cs.drop (0)).take d0.sz ++ cs.drop (d0.sz) = cs.drop (0) := by
        have := List.take_append_drop d0.sz (cs.drop (0))
        rw [List.drop_drop] at this
        rw [Nat.zero_add] at this; exact this
      rw [e0]
      rfl
    rw [hcs]
    exact ⟨(a0, (a1, (a2, a3))), ⟨_, _, rfl, k0, ⟨_, _, rfl, k1, ⟨_, _, rfl, k2, k3⟩⟩⟩, q0, q1, q2, q3⟩
theorem opens_struct5 {P : Program} {t : TypeId} {f0 f1 f2 f3 f4 : Field} {α0 : Type} {d0 : Kd α0} {Q0 : α0 → Prop} {α1 : Type} {d1 : Kd α1} {Q1 : α1 → Prop} {α2 : Type} {d2 : Kd α2} {Q2 : α2 → Prop} {α3 : Type} {d3 : Kd α3} {Q3 : α3 → Prop} {α4 : Type} {d4 : Kd α4} {Q4 : α4 → Prop} (ht : P.underlying t = some (.struct #[f0, f1, f2, f3, f4])) (o0 : f0.offset = 0) (o1 : f1.offset = d0.sz) (o2 : f2.offset = d0.sz + d1.sz) (o3 : f3.offset = d0.sz + d1.sz + d2.sz) (o4 : f4.offset = d0.sz + d1.sz + d2.sz + d3.sz) (hs : P.cellsOf t = d0.sz + d1.sz + d2.sz + d3.sz + d4.sz)
    (h0 : Opens P f0.type d0 Q0) (h1 : Opens P f1.type d1 Q1) (h2 : Opens P f2.type d2 Q2) (h3 : Opens P f3.type d3 Q3) (h4 : Opens P f4.type d4 Q4) : Opens P t (Kd.pair d0 (Kd.pair d1 (Kd.pair d2 (Kd.pair d3 d4)))) (fun x : α0 × α1 × α2 × α3 × α4 => Q0 (x.1) ∧ Q1 (x.2.1) ∧ Q2 (x.2.2.1) ∧ Q3 (x.2.2.2.1) ∧ Q4 (x.2.2.2.2)) where
  size := by rw [hs]; show _ = (d0.sz + (d1.sz + (d2.sz + (d3.sz + d4.sz)))); omega
  read := by
    intro H enc W base spare held fuel cs D ps hr hw
    obtain ⟨xs, n, _, hx, hl, hlen, hf⟩ := DataW.trod_struct ht hr
    obtain ⟨rfl, _⟩ := Prod.mk.inj hx
    obtain ⟨a0, k0, q0⟩ := field_of ht hlen hf hw (i := 0) rfl h0 o0
    obtain ⟨a1, k1, q1⟩ := field_of ht hlen hf hw (i := 1) rfl h1 o1
    obtain ⟨a2, k2, q2⟩ := field_of ht hlen hf hw (i := 2) rfl h2 o2
    obtain ⟨a3, k3, q3⟩ := field_of ht hlen hf hw (i := 3) rfl h3 o3
    obtain ⟨a4, k4, q4⟩ := field_of ht hlen hf hw (i := 4) rfl h4 o4
    rw [hs] at hl
    have hcs : cs = ((cs.drop (0)).take d0.sz ++ ((cs.drop (d0.sz)).take d1.sz ++ ((cs.drop (d0.sz + d1.sz)).take d2.sz ++ ((cs.drop (d0.sz + d1.sz + d2.sz)).take d3.sz ++ ((cs.drop (d0.sz + d1.sz + d2.sz + d3.sz)).take d4.sz))))) := by
      have e4 : (cs.drop (d0.sz + d1.sz + d2.sz + d3.sz)).take d4.sz = cs.drop (d0.sz + d1.sz + d2.sz + d3.sz) := List.take_of_length_le (by rw [List.length_drop]; omega)
      rw [e4]
      have e3 : (cs.drop (d0.sz + d1.sz + d2.sz)).take d3.sz ++ cs.drop (d0.sz + d1.sz + d2.sz + d3.sz) = cs.drop (d0.sz + d1.sz + d2.sz) := by
        have := List.take_append_drop d3.sz (cs.drop (d0.sz + d1.sz + d2.sz))
        rw [List.drop_drop] at this
        exact this
      rw [e3]
      have e2 : (cs.drop (d0.sz + d1.sz)).take d2.sz ++ cs.drop (d0.sz + d1.sz + d2.sz) = cs.drop (d0.sz + d1.sz) := by
        have := List.take_append_drop d2.sz (cs.drop (d0.sz + d1.sz))
        rw [List.drop_drop] at this
        exact this
      rw [e2]
      have e1 : (cs.drop (d0.sz)).take d1.sz ++ cs.drop (d0.sz + d1.sz) = cs.drop (d0.sz) := by
        have := List.take_append_drop d1.sz (cs.drop (d0.sz))
        rw [List.drop_drop] at this
        exact this
      rw [e1]
      have e0 : (cs.drop (0)).take d0.sz ++ cs.drop (d0.sz) = cs.drop (0) := by
        have := List.take_append_drop d0.sz (cs.drop (0))
        rw [List.drop_drop] at this
        rw [Nat.zero_add] at this; exact this
      rw [e0]
      rfl
    rw [hcs]
    exact ⟨(a0, (a1, (a2, (a3, a4)))), ⟨_, _, rfl, k0, ⟨_, _, rfl, k1, ⟨_, _, rfl, k2, ⟨_, _, rfl, k3, k4⟩⟩⟩⟩, q0, q1, q2, q3, q4⟩
end Go.Proofs.Ytkgcfgoaabkcpaa.Pa

/-! ## part E14 -/
namespace Go.Proofs.Ytkgcfgoaabkcpaa.Pa
open Go.RowKit Go.Proofs.YtkgcfgoaabkcpaaW.PrintWords Go.Proofs.YtkgcfgoaabkcpaaW.PrintLast Go.Proofs.YtkgcfgoaabkcpaaW.PrintMore
set_option linter.unusedVariables false
set_option linter.unusedSimpArgs false

theorem opens9 : Opens Try.prog 9 Kd.string (fun s => s.size ≤ reachBytes) := opens_string Try.underlying9 (by kernel_rfl)
theorem opens3 : Opens Try.prog 3 (Kd.int .i64) (fun x => (Lit.int .i64 x).wf = true) := opens_int Try.underlying3 (by kernel_rfl)
theorem opens4 : Opens Try.prog 4 Kd.bool (fun _ => True) := opens_bool Try.underlying4 (by kernel_rfl)
def Q42 (x : S42) : Prop := x.f0.size ≤ reachBytes ∧ (Lit.int .i64 x.f1).wf = true
def Q37 (l : List S42) : Prop := l.length * Try.prog.bytesOf 42 ≤ reachBytes ∧ ∀ a ∈ l, Q42 a
def Q39 (x : S39) : Prop := x.f0.size ≤ reachBytes ∧ (Lit.int .i64 x.f1).wf = true ∧ Q37 x.f2
def Q62 (x : S62) : Prop := x.f0.size ≤ reachBytes ∧ True
def Q22 (l : List S62) : Prop := l.length * Try.prog.bytesOf 62 ≤ reachBytes ∧ ∀ a ∈ l, Q62 a
def Q23 (l : List S39) : Prop := l.length * Try.prog.bytesOf 39 ≤ reachBytes ∧ ∀ a ∈ l, Q39 a
def Q25 (x : S25) : Prop := x.f0.size ≤ reachBytes ∧ Q22 x.f1 ∧ Q23 x.f2
theorem opens42 : Opens Try.prog 42 k42 Q42 := by
  have h := opens_iso (opens_struct2 Try.underlying42 rfl rfl (by kernel_rfl) opens9 opens3) (fun x : S42 => (x.f0, x.f1)) (fun x => ⟨x.1, x.2⟩) (fun _ => rfl)
  exact h
theorem opens37 : Opens Try.prog 37 (Kd.slice 42 k42) Q37 := by
  have h := opens_slice Try.underlying37 (by kernel_rfl) opens42
  exact h
theorem opens39 : Opens Try.prog 39 k39 Q39 := by
  have h := opens_iso (opens_struct3 Try.underlying39 rfl rfl rfl (by kernel_rfl) opens9 opens3 opens37) (fun x : S39 => (x.f0, x.f1, x.f2)) (fun x => ⟨x.1, x.2.1, x.2.2⟩) (fun _ => rfl)
  exact h
theorem opens62 : Opens Try.prog 62 k62 Q62 := by
  have h := opens_iso (opens_struct2 Try.underlying62 rfl rfl (by kernel_rfl) opens9 opens4) (fun x : S62 => (x.f0, x.f1)) (fun x => ⟨x.1, x.2⟩) (fun _ => rfl)
  exact h
theorem opens22 : Opens Try.prog 22 (Kd.slice 62 k62) Q22 := by
  have h := opens_slice Try.underlying22 (by kernel_rfl) opens62
  exact h
theorem opens23 : Opens Try.prog 23 (Kd.slice 39 k39) Q23 := by
  have h := opens_slice Try.underlying23 (by kernel_rfl) opens39
  exact h
theorem opens25 : Opens Try.prog 25 k25 Q25 := by
  have h := opens_iso (opens_struct3 Try.underlying25 rfl rfl rfl (by kernel_rfl) opens9 opens22 opens23) (fun x : S25 => (x.f0, x.f1, x.f2)) (fun x => ⟨x.1, x.2.1, x.2.2⟩) (fun _ => rfl)
  exact h
theorem bytes42 : Try.prog.bytesOf 42 = 24 := by kernel_rfl
theorem bytes62 : Try.prog.bytesOf 62 = 24 := by kernel_rfl
theorem bytes39 : Try.prog.bytesOf 39 = 48 := by kernel_rfl
theorem Q25.sz {x : S25} (h : Q25 x) : SzP x.f1 x.f2 := by
  obtain ⟨_, ⟨h1, _⟩, ⟨h2, h3⟩⟩ := h
  rw [bytes62] at h1
  rw [bytes39] at h2
  have hb : reachBytes = 140737488351232 := by decide
  rw [hb] at h1 h2
  refine ⟨by omega, by omega, fun m hm => ?_⟩
  have h4 := (h3 m hm).2.2.1
  rw [bytes42, hb] at h4
  omega
/-- A protocol by value. -/
theorem open25 {W : World} {x : S25} {cs : List Value} (h : k25.K W x cs) : ∃ A1 c1 A2 c2, cs = [.string x.f0, .slice A1 x.f1.length c1, .slice A2 x.f2.length c2] ∧ x.f1.length ≤ c1 ∧ Kd.C k62 W A1 x.f1.length x.f1 ∧ x.f2.length ≤ c2 ∧ Kd.C k39 W A2 x.f2.length x.f2 := by
  obtain ⟨_, _, rfl, rfl, _, _, rfl, ⟨A1, c1, rfl, h1, h2⟩, ⟨A2, c2, rfl, h3, h4⟩⟩ := h
  exact ⟨A1, c1, A2, c2, rfl, h1, h2, h3, h4⟩
end Go.Proofs.Ytkgcfgoaabkcpaa.Pa

